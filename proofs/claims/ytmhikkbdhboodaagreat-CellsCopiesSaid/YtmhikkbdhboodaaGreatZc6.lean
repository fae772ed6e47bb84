/-
  What cells' Set does where the cell is kept.
  A row of cells in memory; what cells' Look and Set do, whatever the case.
  What cells' All answers: a row of its own.
  What cells' Sweep does.
  What the small functions of the reference answer: tapsterref01.Clamp, tapsterref04.lasts, tapsterref05.lasts, tapsterref07.begin.
  How the reference reckons states, in plain Lean: way by way the same as the four limiters.
  A box that holds a policy; a policy as a result.
  What tapsterref04.Check .. tapsterref07.Check answer.
  What tapsterref05.Right answers.
  Numbers as digits by 65536, in plain Lean.
  Acts, one behind the other, in plain words; acts and answers in memory; a log put behind nothing.
  An entry put behind entries of one's own, in a region whose order is drawn.
  No condition.
-/
import Derived.Test.YtmhikkbdhboodaaGreatZc1
import Derived.Test.YtmhikkbdhboodaaGreatZc2
import Derived.Test.YtmhikkbdhboodaaGreatZc5
import Derived.Laws.AppendOwn
import Derived.Laws.OwnMore
import Derived.ArgAppend
set_option maxHeartbeats 8000000
set_option maxRecDepth 100000
namespace Go.Proofs.YtmhikkbdhboodaaGreat
open Go.RowKit Go.Maps
set_option linter.unusedVariables false
set_option linter.unusedSimpArgs false

variable {w w':World} {p p':CsP} {room nx nx':Nat} {m m':List (Int × Value)} {I A B:List CI}
theorem int_len {l m:List Int} (hl:l.Nodup) (hs:∀ x ∈ l,x ∈ m):l.length≤m.length:=by
 induction l generalizing m with
 | nil=>exact Nat.zero_le _
 | cons a l ih =>
  obtain⟨h1,h2⟩:=List.nodup_cons.1 hl
  have ha:=hs a (List.mem_cons_self ..)
  have:=ih (m:=m.erase a) h2 (fun x hx=>(List.mem_erase_of_ne (fun e=>by subst e;exact h1 hx)).2 (hs x (List.mem_cons_of_mem _ hx)))
  rw[List.length_erase_of_mem ha] at this
  have hp:=List.length_pos_of_mem ha
  show l.length+1≤m.length
  omega
/-- Where no number is, the map has nothing. -/
theorem CsI.none_at (h:CsI w p room nx m I) {v:Int} (hv:∀ j ∈ I,j.v≠v):iGet v m=none:=by
 apply Classical.byContradiction
 intro hne
 obtain⟨u,hu⟩:=Option.ne_none_iff_exists'.1 hne
 have h1:(v :: I.map (·.v)).Nodup:=List.nodup_cons.2 ⟨fun hm=>by
  obtain⟨j,hj,e⟩:=List.mem_map.1 hm
  exact hv j hj e,h.nd⟩
 have h2:=int_len (m:=m.map (·.1)) h1 (fun x hx=>by
  rcases List.mem_cons.1 hx with rfl|hx
  ·exact List.mem_map.2 ⟨_,iGet_mem hu,rfl⟩
  ·obtain⟨j,hj,rfl⟩:=List.mem_map.1 hx
   exact List.mem_map.2 ⟨_,iGet_mem (h.ci j hj).get,rfl⟩)
 have h3:=h.len
 rw[List.length_cons,List.length_map,List.length_map] at h2
 omega
theorem wf_next {nx:Nat} (h:nx<4611686018427387904):(Lit.int .i64 ((nx:Int)+1)).wf=true:=by
 have e1:IntKind.i64.min = -9223372036854775808:=by decide
 have e2:IntKind.i64.max=9223372036854775807:=by decide
 simp only[Lit.wf,Bool.and_eq_true,decide_eq_true_eq]
 omega
theorem only_grow {F G:Nat→Prop} {w W W':World} (h:Only F w W) (k:Only G W W') (hG:∀ q,G q→F q∨w.heap.size≤q):Only F w W' :=
 ⟨k.os.trans h.os,k.tape.trans h.tape,k.output.trans h.output,Nat.le_trans h.size k.size,fun b hb hf=>(k.block b (Nat.lt_of_lt_of_le hb h.size) (fun hg=>(hG b hg).elim hf (fun h=>absurd hb (by omega)))).trans (h.block b hb hf)⟩
theorem own_turn {w w':World} {b base:Nat} {v:Value} {n:Nat} {L:List (Int × Int)} (h:w.mapTurned w' b) (ho:OwnLog w base v n L) (hb:b<base):OwnLog w' base v n L :=
 row_frame ho fun k hk=>(turn_only (F:=fun k=>k=b) h rfl).block k (World.ownsRow.lt ho k hk).2 (fun e=>by have:=(World.ownsRow.lt ho k hk).1;omega)
theorem csset_there (x:Cl) (a:Option Addr) (n c:Nat) (now:Int) {i:CI} (hk:i.x.key=x.key) (h:CsI w p room nx m (A ++ i :: B)) (hl:LogAt w a n c x.st.log) (hfar:∀ ad,a=some ad→n≠0→¬ CF p ad.block) (hs:x.key.length≤maxLen) (hnx:nx<4611686018427387904) (hr:rightP x.pol x.st=true) (hf:cFresh now x=false) :
  Calls Tryz.prog 40 #[.pointer (some ⟨p.b,0,none⟩),x.v a n c,.int .i64 now] w fun e w'=>e=.returned (.int .i64 0)∧∃ p':CsP,p'.b=p.b∧(∃ (m':List (Int × Value)) (a':Option Addr) (c':Nat),CsI w' p' room nx m' (A ++ (B ++ [⟨i.v,x,a',n,c'⟩])))∧Only (CF p) w w'∧∀ q,CF p' q→CF p q∨w.heap.size≤q:=by
 have c1:=h.mm.c1
 have c2:=h.mm.c2
 obtain⟨lb_p,lb_m⟩:=h.mm.lt
 have hsz:(ktx x.key).size≤maxLen:=by rw[ktx_size];exact hs
 have hn1:n≤1000:=by have h1:=right_log hr;have h2:=hl.1;omega
 have hCFlt:=h.lt
 have htb:=h.tb
 rw[kv_mid,hk,← ktx_list x.key] at htb
 have hpk:=fun W hW=>lpeek_some (p:=p.tp) (r:=room) (A:=A.map CI.kv) (B:=B.map CI.kv) (v:=i.v) (ktx x.key) W hW hsz
 have hput:=fun W hW=>lput_there (p:=p.tp) (r:=room) (A:=A.map CI.kv) (B:=B.map CI.kv) (v0:=i.v) (ktx x.key) i.v W hW hsz
 have hwf:=h.wf hnx i (by simp)
 have hbt:=h.mm.bt
 have hbm:=h.mm.bm
 have hml:m.length<maxLen:=by have h1:=h.room_le;have h2:=h.len;rw[h2];simp only[maxLen];omega
 have hrt:=fun W hW=>lright_any x.pol x.st a n c W hW
 rw[hr] at hrt
 have hfr:=fun W hW=>cfresh_any x a n c now W hW
 rw[hf] at hfr
 have hcp:=fun W hW=>ccopied_any x a n c W hW hn1
 have HX0:=Go.Lib.hid (rfl:x=x)
 obtain⟨y,hy⟩:∃ y,y=x:=⟨x,rfl⟩
 obtain⟨key,⟨k,l,d,b,cc,o⟩,⟨at_,level,held,L⟩⟩:=x
 unfold Cl.v at *
 unfold Pol.v St.v at *
 dsimp only at *
 have HKY:Hid (key=(ktx key).data.toList):=Go.Lib.hid (ktx_list key).symm
 generalize hKY:ktx key=KY at *
 have HKT:=Go.Lib.hid hKY
 have HLG:=Go.Lib.hid hl
 have HTB:=Go.Lib.hid htb
 have HI:=Go.Lib.hid h
 have HR:=Go.Lib.hid hr
 have HFAR:=Go.Lib.hid hfar
 have HY:=Go.Lib.hid hy
 have HCF:=Go.Lib.hid hCFlt
 have HWF:=Go.Lib.hid hwf
 have HK:=Go.Lib.hid hk
 clear h hl htb hr hf hKY hfar hy HX0 hCFlt hwf hk
 have HPK:=Go.Lib.hid hpk
 have HRT:=Go.Lib.hid hrt
 have HFR:=Go.Lib.hid hfr
 have HCP:=Go.Lib.hid hcp
 have HPUT:=Go.Lib.hid hput
 clear hpk hrt hfr hcp hput
 go_enter Tryz.func40,Tryz.ntmps40
 go_wp2_with fail
 skip
 refine wp_abs (S0:=fun X=>(fun w'=>w'.cell? ⟨p.b,1,none⟩=some (.pointer (some ⟨p.tp.b,0,none⟩))∧w'.cell? ⟨p.b,2,none⟩=some (.map (some p.mb))∧w'.cell? ⟨w.heap.size,0,none⟩=some (.string KY)∧w'.cell? ⟨w.heap.size,1,none⟩=some (.int .i64 k)∧w'.cell? ⟨w.heap.size,2,none⟩=some (.int .i64 l)∧w'.cell? ⟨w.heap.size,3,none⟩=some (.int .i64 d)∧w'.cell? ⟨w.heap.size,4,none⟩=some (.int .i64 b)∧w'.cell? ⟨w.heap.size,5,none⟩=some (.int .i64 cc)∧w'.cell? ⟨w.heap.size,6,none⟩=some (.bool o)∧w'.cell? ⟨w.heap.size,7,none⟩=some (.int .i64 at_)∧w'.cell? ⟨w.heap.size,8,none⟩=some (.int .i64 level)∧w'.cell? ⟨w.heap.size,9,none⟩=some (.int .i64 held)∧w'.cell? ⟨w.heap.size,10,none⟩=some (.slice a n c)∧Below w.heap.size w w') X∧w.heap.size+1≤X.heap.size) ⟨⟨bl_cell k1 c1,bl_cell k1 c2,by go_simp,by go_simp,by go_simp,by go_simp,by go_simp,by go_simp,by go_simp,by go_simp,by go_simp,by go_simp,by go_simp,k1⟩,by simp⟩ ?_
 clear c1 c2
 rintro w1 ⟨⟨c1,c2,xb0,xb1,xb2,xb3,xb4,xb5,xb6,xb7,xb8,xb9,xb10,hB⟩,hsz1⟩
 have lb_xb:=lbc xb0
 have lb_xb1:=lbc xb10
 refine wp_region_held_drew (S:=fun w'=>w'.cell? ⟨p.b,1,none⟩=some (.pointer (some ⟨p.tp.b,0,none⟩))∧w'.cell? ⟨p.b,2,none⟩=some (.map (some p.mb))∧w'.cell? ⟨w.heap.size,0,none⟩=some (.string KY)∧w'.cell? ⟨w.heap.size,1,none⟩=some (.int .i64 k)∧w'.cell? ⟨w.heap.size,2,none⟩=some (.int .i64 l)∧w'.cell? ⟨w.heap.size,3,none⟩=some (.int .i64 d)∧w'.cell? ⟨w.heap.size,4,none⟩=some (.int .i64 b)∧w'.cell? ⟨w.heap.size,5,none⟩=some (.int .i64 cc)∧w'.cell? ⟨w.heap.size,6,none⟩=some (.bool o)∧w'.cell? ⟨w.heap.size,7,none⟩=some (.int .i64 at_)∧w'.cell? ⟨w.heap.size,8,none⟩=some (.int .i64 level)∧w'.cell? ⟨w.heap.size,9,none⟩=some (.int .i64 held)∧w'.cell? ⟨w.heap.size,10,none⟩=some (.slice a n c)∧Below w.heap.size w w') (by kernel_rfl) ?_ (fun hHeld=>?_)
 ·exact⟨c1,c2,xb0,xb1,xb2,xb3,xb4,xb5,xb6,xb7,xb8,xb9,xb10,bl_drew hB⟩
 try simp only[Act.put,List.setIfInBounds_toArray,List.set_cons_zero,List.set_cons_succ]
 refine tkx 0 ?_
 refine tkx 1 ?_
 refine tkx 2 ?_
 refine tkx 3 ?_
 refine tkx 4 ?_
 refine tkx 5 ?_
 (refine callH (i:=6) rfl hHeld (fun W hW K hK=>?_);clear hHeld;(try dsimp only at hW);obtain⟨h_c1,h_c2,h_xb0,h_xb1,h_xb2,h_xb3,h_xb4,h_xb5,h_xb6,h_xb7,h_xb8,h_xb9,h_xb10,h_B⟩:=hW;go_simp;refine(HPK.out W (tabl_bl HTB.out h_B)).mono ?_;rintro e w9 ⟨rfl,hb⟩;go_wp2_with fail;refine hK.out _ _ ?_ (fun hHeld=>?_);(focus((try dsimp only);exact⟨bl_cell hb h_c1,bl_cell hb h_c2,bl_cell hb h_xb0,bl_cell hb h_xb1,bl_cell hb h_xb2,bl_cell hb h_xb3,bl_cell hb h_xb4,bl_cell hb h_xb5,bl_cell hb h_xb6,bl_cell hb h_xb7,bl_cell hb h_xb8,bl_cell hb h_xb9,bl_cell hb h_xb10,bl_then h_B hb⟩));clear hK K;clear h_c1 h_c2 h_xb0 h_xb1 h_xb2 h_xb3 h_xb4 h_xb5 h_xb6 h_xb7 h_xb8 h_xb9 h_xb10 h_B;try simp only[Act.put,List.setIfInBounds_toArray,List.set_cons_zero,List.set_cons_succ])
 refine tkx 7 ?_
 refine tkx 8 ?_
 refine tkx 9 ?_
 refine tkx 10 ?_
 refine tkx 11 ?_
 refine wpAnyH_done (by kernel_rfl) ?_ _
 refine then_abs (F:=fun w'=>w'.cell? ⟨p.b,1,none⟩=some (.pointer (some ⟨p.tp.b,0,none⟩))∧w'.cell? ⟨p.b,2,none⟩=some (.map (some p.mb))∧w'.cell? ⟨w.heap.size,0,none⟩=some (.string KY)∧w'.cell? ⟨w.heap.size,1,none⟩=some (.int .i64 k)∧w'.cell? ⟨w.heap.size,2,none⟩=some (.int .i64 l)∧w'.cell? ⟨w.heap.size,3,none⟩=some (.int .i64 d)∧w'.cell? ⟨w.heap.size,4,none⟩=some (.int .i64 b)∧w'.cell? ⟨w.heap.size,5,none⟩=some (.int .i64 cc)∧w'.cell? ⟨w.heap.size,6,none⟩=some (.bool o)∧w'.cell? ⟨w.heap.size,7,none⟩=some (.int .i64 at_)∧w'.cell? ⟨w.heap.size,8,none⟩=some (.int .i64 level)∧w'.cell? ⟨w.heap.size,9,none⟩=some (.int .i64 held)∧w'.cell? ⟨w.heap.size,10,none⟩=some (.slice a n c)∧Below w.heap.size w w') hHeld ?_
 clear hHeld hB c1 c2 xb0 xb1 xb2 xb3 xb4 xb5 xb6 xb7 xb8 xb9 xb10
 rintro w2 ⟨c1,c2,xb0,xb1,xb2,xb3,xb4,xb5,xb6,xb7,xb8,xb9,xb10,hB⟩
 replace lb_xb:=lbc xb0
 replace lb_xb1:=lbc xb10
 go_wp2_with fail
 refine(HRT.out _ (log_bl HLG.out hB)).mono ?_
 rintro e w3 ⟨rfl,hb⟩
 have hsz2:w2.heap.size+0≤w3.heap.size:=szl hb
 replace c1:=bl_cell hb c1
 replace c2:=bl_cell hb c2
 replace xb0:=bl_cell hb xb0
 replace xb1:=bl_cell hb xb1
 replace xb2:=bl_cell hb xb2
 replace xb3:=bl_cell hb xb3
 replace xb4:=bl_cell hb xb4
 replace xb5:=bl_cell hb xb5
 replace xb6:=bl_cell hb xb6
 replace xb7:=bl_cell hb xb7
 replace xb8:=bl_cell hb xb8
 replace xb9:=bl_cell hb xb9
 replace xb10:=bl_cell hb xb10
 replace hB:Below w.heap.size w w3:=bl_then hB hb
 replace lb_xb:=lbc xb0
 replace lb_xb1:=lbc xb10
 clear hb
 go_wp2_with fail
 refine(HFR.out _ (log_bl HLG.out hB)).mono ?_
 rintro e w4 ⟨rfl,hb⟩
 have hsz3:w3.heap.size+0≤w4.heap.size:=szl hb
 replace c1:=bl_cell hb c1
 replace c2:=bl_cell hb c2
 replace xb0:=bl_cell hb xb0
 replace xb1:=bl_cell hb xb1
 replace xb2:=bl_cell hb xb2
 replace xb3:=bl_cell hb xb3
 replace xb4:=bl_cell hb xb4
 replace xb5:=bl_cell hb xb5
 replace xb6:=bl_cell hb xb6
 replace xb7:=bl_cell hb xb7
 replace xb8:=bl_cell hb xb8
 replace xb9:=bl_cell hb xb9
 replace xb10:=bl_cell hb xb10
 replace hB:Below w.heap.size w w4:=bl_then hB hb
 replace lb_xb:=lbc xb0
 replace lb_xb1:=lbc xb10
 clear hb
 go_wp2_with fail
 have hxF:¬ CF p w.heap.size:=fun hq=>absurd (HCF.out _ hq) (by omega)
 have hsw:=hB.size
 have hO0:Only (CF p) w w4:=Only.of_below hB
 have hm0:CsM w4 (⟨p.b,p.tp,p.mb⟩:CsP) room nx m:=(HI.out.bl hB).mm
 have ht0:=tabl_bl HTB.out hB
 have hxm:w.heap.size≠p.mb:=by omega
 have hTF1:∀ q,TF p.tp q→CF (⟨p.b,p.tp,p.mb⟩:CsP) q∨w.heap.size≤q:=fun q hq => .inl (.inr (.inr hq))
 have hTx:¬ TF p.tp w.heap.size:=fun hq=>hxF (.inr (.inr hq))
 refine wp_region_held_drew (S:=fun X=>X.cell? ⟨p.b,1,none⟩=some (.pointer (some ⟨p.tp.b,0,none⟩))∧X.cell? ⟨w.heap.size,0,none⟩=some (.string KY)) (by kernel_rfl) ?_ (fun hHeld=>?_)
 ·exact⟨c1,xb0⟩
 try simp only[Act.put,List.setIfInBounds_toArray,List.set_cons_zero,List.set_cons_succ]
 refine wpAnyH_abs (F:=fun X=>CsM X (⟨p.b,p.tp,p.mb⟩:CsP) room nx m∧TabL X p.tp room (A.map CI.kv ++ (KY.data.toList,i.v) :: B.map CI.kv)∧Only (CF (⟨p.b,p.tp,p.mb⟩:CsP)) w X∧X.cell? ⟨p.b,2,none⟩=some (.map (some p.mb))∧X.cell? ⟨w.heap.size,0,none⟩=some (.string KY)∧X.cell? ⟨w.heap.size,1,none⟩=some (.int .i64 k)∧X.cell? ⟨w.heap.size,2,none⟩=some (.int .i64 l)∧X.cell? ⟨w.heap.size,3,none⟩=some (.int .i64 d)∧X.cell? ⟨w.heap.size,4,none⟩=some (.int .i64 b)∧X.cell? ⟨w.heap.size,5,none⟩=some (.int .i64 cc)∧X.cell? ⟨w.heap.size,6,none⟩=some (.bool o)∧X.cell? ⟨w.heap.size,7,none⟩=some (.int .i64 at_)∧X.cell? ⟨w.heap.size,8,none⟩=some (.int .i64 level)∧X.cell? ⟨w.heap.size,9,none⟩=some (.int .i64 held)∧X.cell? ⟨w.heap.size,10,none⟩=some (.slice a n c)) hHeld ⟨hm0.frame rfl rfl,ht0.frame (fun _ _=>rfl),hO0.drew,c2,xb0,xb1,xb2,xb3,xb4,xb5,xb6,xb7,xb8,xb9,xb10⟩ ?_
 clear hHeld hm0 ht0 hO0 c1 c2 xb0 xb1 xb2 xb3 xb4 xb5 xb6 xb7 xb8 xb9 xb10 hB hsw
 rintro X0 hHeld ⟨hm0,ht0,hO0,c2,xb0,xb1,xb2,xb3,xb4,xb5,xb6,xb7,xb8,xb9,xb10⟩
 refine tkx 0 ?_
 refine tkx 1 ?_
 refine tkx 2 ?_
 refine tkx 3 ?_
 refine tkx 4 ?_
 refine tkx 5 ?_
 refine tkx 6 ?_
 refine callC (i:=7) rfl (fun K hK=>?_)
 obtain⟨h_c1,h_xb0⟩:=(id hHeld)
 go_simp
 refine(HPUT.out _ ht0).mono ?_
 rintro e X7 ⟨rfl,htl,hO⟩
 have HO7:=Go.Lib.hid hO
 have HTL7:=Go.Lib.hid htl
 clear hO htl
 go_wp2_with fail
 refine hK.out _ _ ?_ (fun hHeld2=>?_)
 ·exact⟨only_cell HO7.out h_c1 hbt,only_cell HO7.out h_xb0 hTx⟩
 clear hHeld hK K h_c1 h_xb0
 have hHeld:=hHeld2
 clear hHeld2
 try simp only[Act.put,List.setIfInBounds_toArray,List.set_cons_zero,List.set_cons_succ]
 refine wpAnyH_done (by kernel_rfl) ?_ _
 clear hHeld
 have hm7:=hm0.tab (tp:=p.tp) HO7.out (fun q hq => .inl hq) rfl
 have hO7:Only (CF (⟨p.b,p.tp,p.mb⟩:CsP)) w X7:=only_grow hO0 HO7.out hTF1
 have hF7:∀ q,CF ⟨p.b,p.tp,p.mb⟩ q→CF (⟨p.b,p.tp,p.mb⟩:CsP) q∨w.heap.size≤q:=fun q hq=>by
  rcases hq with rfl|rfl|hq
  ·exact .inl (.inl rfl)
  ·exact .inl (.inr (.inl rfl))
  ·exact hTF1 q hq
 replace c2:=only_cell HO7.out c2 hbt
 replace xb0:=only_cell HO7.out xb0 hTx
 replace xb1:=only_cell HO7.out xb1 hTx
 replace xb2:=only_cell HO7.out xb2 hTx
 replace xb3:=only_cell HO7.out xb3 hTx
 replace xb4:=only_cell HO7.out xb4 hTx
 replace xb5:=only_cell HO7.out xb5 hTx
 replace xb6:=only_cell HO7.out xb6 hTx
 replace xb7:=only_cell HO7.out xb7 hTx
 replace xb8:=only_cell HO7.out xb8 hTx
 replace xb9:=only_cell HO7.out xb9 hTx
 replace xb10:=only_cell HO7.out xb10 hTx
 have HTL:=Go.Lib.hid HTL7.out
 have HM7:=Go.Lib.hid hm7
 have HO77:=Go.Lib.hid hO7
 have HF7:=Go.Lib.hid hF7
 clear hm0 ht0 hO0 hm7 hO7 hF7 HO7 HTL7
 go_wp2_with fail
 refine wp_region_held_drew (S:=fun X=>X.cell? ⟨p.b,2,none⟩=some (.map (some p.mb))∧X.cell? ⟨w.heap.size,0,none⟩=some (.string KY)∧X.cell? ⟨w.heap.size,1,none⟩=some (.int .i64 k)∧X.cell? ⟨w.heap.size,2,none⟩=some (.int .i64 l)∧X.cell? ⟨w.heap.size,3,none⟩=some (.int .i64 d)∧X.cell? ⟨w.heap.size,4,none⟩=some (.int .i64 b)∧X.cell? ⟨w.heap.size,5,none⟩=some (.int .i64 cc)∧X.cell? ⟨w.heap.size,6,none⟩=some (.bool o)∧X.cell? ⟨w.heap.size,7,none⟩=some (.int .i64 at_)∧X.cell? ⟨w.heap.size,8,none⟩=some (.int .i64 level)∧X.cell? ⟨w.heap.size,9,none⟩=some (.int .i64 held)∧X.cell? ⟨w.heap.size,10,none⟩=some (.slice a n c)) (by kernel_rfl) ?_ (fun hHeld=>?_)
 ·exact⟨c2,xb0,xb1,xb2,xb3,xb4,xb5,xb6,xb7,xb8,xb9,xb10⟩
 try simp only[Act.put,List.setIfInBounds_toArray,List.set_cons_zero,List.set_cons_succ]
 refine wpAnyH_abs (F:=fun X=>CsM X ⟨p.b,p.tp,p.mb⟩ room nx m∧TabL X p.tp room (A.map CI.kv ++ B.map CI.kv ++ [(KY.data.toList,i.v)])∧Only (CF (⟨p.b,p.tp,p.mb⟩:CsP)) w X) hHeld ⟨HM7.out.frame rfl rfl,HTL.out.frame (fun _ _=>rfl),HO77.out.drew⟩ ?_
 clear hHeld c2 HM7 HTL HO77 xb0 xb1 xb2 xb3 xb4 xb5 xb6 xb7 xb8 xb9 xb10
 rintro Y0 hHeld ⟨hm,htl,hO⟩
 refine tkx 0 ?_
 refine tkx 1 ?_
 refine tkx 2 ?_
 refine tkx 3 ?_
 refine tkx 4 ?_
 refine tkx 5 ?_
 refine callC (i:=6) rfl (fun K hK=>?_)
 obtain⟨h_c2,h_xb0,h_xb1,h_xb2,h_xb3,h_xb4,h_xb5,h_xb6,h_xb7,h_xb8,h_xb9,h_xb10⟩:=(id hHeld)
 go_simp
 refine(HCP.out _ (log_only HLG.out hO HFAR.out)).mono ?_
 rintro e Y6 ⟨a',c',rfl,hown,hb⟩
 have HB6:=Go.Lib.hid hb
 have HOW:=Go.Lib.hid hown
 clear hb hown
 go_wp2_with fail
 refine hK.out _ _ ?_ (fun hHeld2=>?_)
 ·exact⟨bl_cell HB6.out h_c2,bl_cell HB6.out h_xb0,bl_cell HB6.out h_xb1,bl_cell HB6.out h_xb2,bl_cell HB6.out h_xb3,bl_cell HB6.out h_xb4,bl_cell HB6.out h_xb5,bl_cell HB6.out h_xb6,bl_cell HB6.out h_xb7,bl_cell HB6.out h_xb8,bl_cell HB6.out h_xb9,bl_cell HB6.out h_xb10⟩
 clear hHeld hK K h_c2 h_xb0 h_xb1 h_xb2 h_xb3 h_xb4 h_xb5 h_xb6 h_xb7 h_xb8 h_xb9 h_xb10
 have hHeld:=hHeld2
 clear hHeld2
 try simp only[Act.put,List.setIfInBounds_toArray,List.set_cons_zero,List.set_cons_succ]
 have hsz6:=hO.size
 have hmb:=hm.lt
 have htlt:=htl.lt
 have hb6:=HB6.out
 replace hm:=hm.frame (hb6.block _ hm.lt.1) (hb6.block _ hm.lt.2)
 replace htl:=tabl_bl htl hb6
 have HFB:Hid (∀ q,CF ⟨p.b,p.tp,p.mb⟩ q→q<Y0.heap.size):=Go.Lib.hid (fun q hq=>by rcases hq with rfl|rfl|hq;exact hmb.1;exact hmb.2;exact htlt q hq)
 replace hO:Only (CF (⟨p.b,p.tp,p.mb⟩:CsP)) w Y6:=hO.trans (Only.of_below hb6)
 clear hb6 htlt
 obtain⟨Y7,hrun,hmap,hturn⟩:=imap_store hm.mp Tryz.underlying3 map_und hml i.v HWF.out (.agg #[.string KY,.int .i64 k,.int .i64 l,.int .i64 d,.int .i64 b,.int .i64 cc,.bool o,.int .i64 at_,.int .i64 level,.int .i64 held,.slice a' n c'])
 replace hrun:(Instr.mapUpdate 93 (.map (some p.mb)) (.int .i64 i.v) (.agg #[.string KY,.int .i64 k,.int .i64 l,.int .i64 d,.int .i64 b,.int .i64 cc,.bool o,.int .i64 at_,.int .i64 level,.int .i64 held,.slice a' n c'])).run Tryz.prog Y6=.ok () Y7:=hrun
 have HM:=Go.Lib.hid (hm.turn hturn hmap)
 have HTL:=Go.Lib.hid (turn_tab hturn htl hm.mt)
 have HOM:=Go.Lib.hid (only_grow hO (turn_only (F:=fun k=>k=p.mb) hturn rfl) (fun q hq=>by subst hq;exact .inl (.inr (.inl rfl))))
 clear hm htl hmap hO
 refine callC (i:=7) rfl (fun K hK=>?_)
 obtain⟨h_c2,h_xb0,h_xb1,h_xb2,h_xb3,h_xb4,h_xb5,h_xb6,h_xb7,h_xb8,h_xb9,h_xb10⟩:=(id hHeld)
 go_simp
 refine hK.out _ _ ?_ (fun hHeld2=>?_)
 ·exact⟨turn_cell hturn h_c2 hbm,turn_cell hturn h_xb0 hxm,turn_cell hturn h_xb1 hxm,turn_cell hturn h_xb2 hxm,turn_cell hturn h_xb3 hxm,turn_cell hturn h_xb4 hxm,turn_cell hturn h_xb5 hxm,turn_cell hturn h_xb6 hxm,turn_cell hturn h_xb7 hxm,turn_cell hturn h_xb8 hxm,turn_cell hturn h_xb9 hxm,turn_cell hturn h_xb10 hxm⟩
 clear hHeld hK K h_c2 h_xb0 h_xb1 h_xb2 h_xb3 h_xb4 h_xb5 h_xb6 h_xb7 h_xb8 h_xb9 h_xb10
 have hHeld:=hHeld2
 clear hHeld2
 try simp only[Act.put,List.setIfInBounds_toArray,List.set_cons_zero,List.set_cons_succ]
 refine wpAnyH_done (by kernel_rfl) ?_ _
 clear hHeld
 have HTU:=Go.Lib.hid hturn
 clear hturn hrun
 go_wp2_with fail
 go_ret
 obtain⟨n1,n2⟩:=nd_mid HI.out.nd
 have hsub:∀ j ∈ A ++ B,j ∈ A ++ i :: B:=fun j hj=>by
  rcases List.mem_append.1 hj with hj|hj
  ·exact List.mem_append.2 (.inl hj)
  ·exact List.mem_append.2 (.inr (List.mem_cons_of_mem _ hj))
 have hit:=HI.out.ci i (by simp)
 have hlen:(iPut i.v (Cl.v ⟨key,⟨k,l,d,b,cc,o⟩,⟨at_,level,held,L⟩⟩ a' n c') m).length=(A ++ B).length+1:=by
  rw[iPut_len _ _ (imap_nodup HI.out.mm.mp Tryz.underlying3),hit.get]
  have h1:=HI.out.len
  simp only[List.length_append,List.length_cons] at h1 ⊢
  simp
  omega
 have ht':TabL Y7 p.tp room ((A ++ B).map CI.kv ++ [(key,i.v)]):=by rw[List.map_append,HKY.out];exact HTL.out
 have hmm:CsM Y7 ⟨p.b,p.tp,p.mb⟩ room nx (iPut i.v (Cl.v ⟨key,⟨k,l,d,b,cc,o⟩,⟨at_,level,held,L⟩⟩ a' n c') m):=by unfold Cl.v;dsimp only;rw[HKT.out];exact HM.out
 have hlg:=own_turn HTU.out HOW.out (HFB.out p.mb (.inr (.inl rfl)))
 have hcs:=CsI.laid (x:=⟨key,⟨k,l,d,b,cc,o⟩,⟨at_,level,held,L⟩⟩) (I:=A ++ B) (p:=p) (fun j hj=>HI.out.ci j (hsub j hj)) n1 (Nat.le_refl _) hmm ht' HOM.out HF7.out hlg HFB.out HR.out hit.lo hit.hi n2 (fun _ _=>rfl) hlen
 rw[List.append_assoc] at hcs
 exact⟨rfl,⟨p.b,p.tp,p.mb⟩,rfl,⟨_,a',c',hcs⟩,HOM.out,HF7.out⟩
theorem csset_new (x:Cl) (a:Option Addr) (n c:Nat) (now:Int) (hx:∀ e ∈ I.map CI.kv,e.1≠x.key) (h:CsI w p room nx m I) (hl:LogAt w a n c x.st.log) (hfar:∀ ad,a=some ad→n≠0→¬ CF p ad.block) (hs:x.key.length≤maxLen) (hnx:nx<4611686018427387904) (hr:rightP x.pol x.st=true) (hf:cFresh now x=false) :
  Calls Tryz.prog 40 #[.pointer (some ⟨p.b,0,none⟩),x.v a n c,.int .i64 now] w fun e w'=>∃ p':CsP,p'.b=p.b∧Only (CF p) w w'∧(∀ q,CF p' q→CF p q∨w.heap.size≤q)∧((∃ M,cRoom room (I.map (·.x)) now=some M∧e=.returned (.int .i64 0)∧CellsAt w' p' room (nx+1) (M ++ [x]))∨(cRoom room (I.map (·.x)) now=none∧e=.returned (.int .i64 5)∧CellsAt w' p' room nx (I.map (·.x)))):=by
 have c1:=h.mm.c1
 have c2:=h.mm.c2
 obtain⟨lb_p,lb_m⟩:=h.mm.lt
 have hsz:(ktx x.key).size≤maxLen:=by rw[ktx_size];exact hs
 have hn1:n≤1000:=by have h1:=right_log hr;have h2:=hl.1;omega
 have hCFlt:=h.lt
 have htb:=h.tb
 have hpk:=fun W hW=>lpeek_none (p:=p.tp) (r:=room) (ktx x.key) W hW hsz (by rw[ktx_list];exact hx)
 have hsp:=fun W (hW:CsI W p room nx m I)=>cspare_any now hW hnx
 have hput:=fun W (tp:TbP) (E:List (Key × Int)) hW hxE hlt=>lput_new (p:=tp) (r:=room) (E:=E) (ktx x.key) ((nx:Int)+1) W hW hsz hxE hlt
 have hwf:(Lit.int .i64 ((nx:Int)+1)).wf=true:=wf_next hnx
 have hw:=IntWalk.i64_in ((nx:Int)+1) (by omega)
 have hrt:=fun W hW=>lright_any x.pol x.st a n c W hW
 rw[hr] at hrt
 have hfr:=fun W hW=>cfresh_any x a n c now W hW
 rw[hf] at hfr
 have hcp:=fun W hW=>ccopied_any x a n c W hW hn1
 have HX0:=Go.Lib.hid (rfl:x=x)
 obtain⟨y,hy⟩:∃ y,y=x:=⟨x,rfl⟩
 obtain⟨key,⟨k,l,d,b,cc,o⟩,⟨at_,level,held,L⟩⟩:=x
 unfold Cl.v at *
 unfold Pol.v St.v at *
 dsimp only at *
 have HKY:Hid (key=(ktx key).data.toList):=Go.Lib.hid (ktx_list key).symm
 generalize hKY:ktx key=KY at *
 have HKT:=Go.Lib.hid hKY
 have HLG:=Go.Lib.hid hl
 have HTB:=Go.Lib.hid htb
 have HI:=Go.Lib.hid h
 have HR:=Go.Lib.hid hr
 have HFAR:=Go.Lib.hid hfar
 have HY:=Go.Lib.hid hy
 have HCF:=Go.Lib.hid hCFlt
 have HWF:=Go.Lib.hid hwf
 have HX:=Go.Lib.hid hx
 clear h hl htb hr hf hKY hfar hy HX0 hCFlt hwf hx
 have HPK:=Go.Lib.hid hpk
 have HRT:=Go.Lib.hid hrt
 have HFR:=Go.Lib.hid hfr
 have HCP:=Go.Lib.hid hcp
 have HPUT:=Go.Lib.hid hput
 have HSP:=Go.Lib.hid hsp
 clear hpk hrt hfr hcp hput hsp
 go_enter Tryz.func40,Tryz.ntmps40
 go_wp2_with fail
 skip
 refine wp_abs (S0:=fun X=>(fun w'=>w'.cell? ⟨p.b,1,none⟩=some (.pointer (some ⟨p.tp.b,0,none⟩))∧w'.cell? ⟨p.b,2,none⟩=some (.map (some p.mb))∧w'.cell? ⟨w.heap.size,0,none⟩=some (.string KY)∧w'.cell? ⟨w.heap.size,1,none⟩=some (.int .i64 k)∧w'.cell? ⟨w.heap.size,2,none⟩=some (.int .i64 l)∧w'.cell? ⟨w.heap.size,3,none⟩=some (.int .i64 d)∧w'.cell? ⟨w.heap.size,4,none⟩=some (.int .i64 b)∧w'.cell? ⟨w.heap.size,5,none⟩=some (.int .i64 cc)∧w'.cell? ⟨w.heap.size,6,none⟩=some (.bool o)∧w'.cell? ⟨w.heap.size,7,none⟩=some (.int .i64 at_)∧w'.cell? ⟨w.heap.size,8,none⟩=some (.int .i64 level)∧w'.cell? ⟨w.heap.size,9,none⟩=some (.int .i64 held)∧w'.cell? ⟨w.heap.size,10,none⟩=some (.slice a n c)∧Below w.heap.size w w') X∧w.heap.size+1≤X.heap.size) ⟨⟨bl_cell k1 c1,bl_cell k1 c2,by go_simp,by go_simp,by go_simp,by go_simp,by go_simp,by go_simp,by go_simp,by go_simp,by go_simp,by go_simp,by go_simp,k1⟩,by simp⟩ ?_
 clear c1 c2
 rintro w1 ⟨⟨c1,c2,xb0,xb1,xb2,xb3,xb4,xb5,xb6,xb7,xb8,xb9,xb10,hB⟩,hsz1⟩
 have lb_xb:=lbc xb0
 have lb_xb1:=lbc xb10
 refine wp_region_held_drew (S:=fun w'=>w'.cell? ⟨p.b,1,none⟩=some (.pointer (some ⟨p.tp.b,0,none⟩))∧w'.cell? ⟨p.b,2,none⟩=some (.map (some p.mb))∧w'.cell? ⟨w.heap.size,0,none⟩=some (.string KY)∧w'.cell? ⟨w.heap.size,1,none⟩=some (.int .i64 k)∧w'.cell? ⟨w.heap.size,2,none⟩=some (.int .i64 l)∧w'.cell? ⟨w.heap.size,3,none⟩=some (.int .i64 d)∧w'.cell? ⟨w.heap.size,4,none⟩=some (.int .i64 b)∧w'.cell? ⟨w.heap.size,5,none⟩=some (.int .i64 cc)∧w'.cell? ⟨w.heap.size,6,none⟩=some (.bool o)∧w'.cell? ⟨w.heap.size,7,none⟩=some (.int .i64 at_)∧w'.cell? ⟨w.heap.size,8,none⟩=some (.int .i64 level)∧w'.cell? ⟨w.heap.size,9,none⟩=some (.int .i64 held)∧w'.cell? ⟨w.heap.size,10,none⟩=some (.slice a n c)∧Below w.heap.size w w') (by kernel_rfl) ?_ (fun hHeld=>?_)
 ·exact⟨c1,c2,xb0,xb1,xb2,xb3,xb4,xb5,xb6,xb7,xb8,xb9,xb10,bl_drew hB⟩
 try simp only[Act.put,List.setIfInBounds_toArray,List.set_cons_zero,List.set_cons_succ]
 refine tkx 0 ?_
 refine tkx 1 ?_
 refine tkx 2 ?_
 refine tkx 3 ?_
 refine tkx 4 ?_
 refine tkx 5 ?_
 (refine callH (i:=6) rfl hHeld (fun W hW K hK=>?_);clear hHeld;(try dsimp only at hW);obtain⟨h_c1,h_c2,h_xb0,h_xb1,h_xb2,h_xb3,h_xb4,h_xb5,h_xb6,h_xb7,h_xb8,h_xb9,h_xb10,h_B⟩:=hW;go_simp;refine(HPK.out W (tabl_bl HTB.out h_B)).mono ?_;rintro e w9 ⟨rfl,hb⟩;go_wp2_with fail;refine hK.out _ _ ?_ (fun hHeld=>?_);(focus((try dsimp only);exact⟨bl_cell hb h_c1,bl_cell hb h_c2,bl_cell hb h_xb0,bl_cell hb h_xb1,bl_cell hb h_xb2,bl_cell hb h_xb3,bl_cell hb h_xb4,bl_cell hb h_xb5,bl_cell hb h_xb6,bl_cell hb h_xb7,bl_cell hb h_xb8,bl_cell hb h_xb9,bl_cell hb h_xb10,bl_then h_B hb⟩));clear hK K;clear h_c1 h_c2 h_xb0 h_xb1 h_xb2 h_xb3 h_xb4 h_xb5 h_xb6 h_xb7 h_xb8 h_xb9 h_xb10 h_B;try simp only[Act.put,List.setIfInBounds_toArray,List.set_cons_zero,List.set_cons_succ])
 refine tkx 7 ?_
 refine tkx 8 ?_
 refine tkx 9 ?_
 refine tkx 10 ?_
 refine tkx 11 ?_
 refine wpAnyH_done (by kernel_rfl) ?_ _
 refine then_abs (F:=fun w'=>w'.cell? ⟨p.b,1,none⟩=some (.pointer (some ⟨p.tp.b,0,none⟩))∧w'.cell? ⟨p.b,2,none⟩=some (.map (some p.mb))∧w'.cell? ⟨w.heap.size,0,none⟩=some (.string KY)∧w'.cell? ⟨w.heap.size,1,none⟩=some (.int .i64 k)∧w'.cell? ⟨w.heap.size,2,none⟩=some (.int .i64 l)∧w'.cell? ⟨w.heap.size,3,none⟩=some (.int .i64 d)∧w'.cell? ⟨w.heap.size,4,none⟩=some (.int .i64 b)∧w'.cell? ⟨w.heap.size,5,none⟩=some (.int .i64 cc)∧w'.cell? ⟨w.heap.size,6,none⟩=some (.bool o)∧w'.cell? ⟨w.heap.size,7,none⟩=some (.int .i64 at_)∧w'.cell? ⟨w.heap.size,8,none⟩=some (.int .i64 level)∧w'.cell? ⟨w.heap.size,9,none⟩=some (.int .i64 held)∧w'.cell? ⟨w.heap.size,10,none⟩=some (.slice a n c)∧Below w.heap.size w w') hHeld ?_
 clear hHeld hB c1 c2 xb0 xb1 xb2 xb3 xb4 xb5 xb6 xb7 xb8 xb9 xb10
 rintro w2 ⟨c1,c2,xb0,xb1,xb2,xb3,xb4,xb5,xb6,xb7,xb8,xb9,xb10,hB⟩
 replace lb_xb:=lbc xb0
 replace lb_xb1:=lbc xb10
 go_wp2_with fail
 refine(HRT.out _ (log_bl HLG.out hB)).mono ?_
 rintro e w3 ⟨rfl,hb⟩
 have hsz2:w2.heap.size+0≤w3.heap.size:=szl hb
 replace c1:=bl_cell hb c1
 replace c2:=bl_cell hb c2
 replace xb0:=bl_cell hb xb0
 replace xb1:=bl_cell hb xb1
 replace xb2:=bl_cell hb xb2
 replace xb3:=bl_cell hb xb3
 replace xb4:=bl_cell hb xb4
 replace xb5:=bl_cell hb xb5
 replace xb6:=bl_cell hb xb6
 replace xb7:=bl_cell hb xb7
 replace xb8:=bl_cell hb xb8
 replace xb9:=bl_cell hb xb9
 replace xb10:=bl_cell hb xb10
 replace hB:Below w.heap.size w w3:=bl_then hB hb
 replace lb_xb:=lbc xb0
 replace lb_xb1:=lbc xb10
 clear hb
 go_wp2_with fail
 refine(HFR.out _ (log_bl HLG.out hB)).mono ?_
 rintro e w4 ⟨rfl,hb⟩
 have hsz3:w3.heap.size+0≤w4.heap.size:=szl hb
 replace c1:=bl_cell hb c1
 replace c2:=bl_cell hb c2
 replace xb0:=bl_cell hb xb0
 replace xb1:=bl_cell hb xb1
 replace xb2:=bl_cell hb xb2
 replace xb3:=bl_cell hb xb3
 replace xb4:=bl_cell hb xb4
 replace xb5:=bl_cell hb xb5
 replace xb6:=bl_cell hb xb6
 replace xb7:=bl_cell hb xb7
 replace xb8:=bl_cell hb xb8
 replace xb9:=bl_cell hb xb9
 replace xb10:=bl_cell hb xb10
 replace hB:Below w.heap.size w w4:=bl_then hB hb
 replace lb_xb:=lbc xb0
 replace lb_xb1:=lbc xb10
 clear hb
 go_wp2_with fail
 have hxF:¬ CF p w.heap.size:=fun hq=>absurd (HCF.out _ hq) (by omega)
 have hsw:=hB.size
 refine(HSP.out _ (HI.out.bl hB)).mono ?_
 rintro e v1 hsp
 rcases hsp with⟨⟨b1,tp1,mb1⟩,M,rfl,hrm,hMl,hpb,hcs,hO,hF⟩|⟨rfl,hrm,hb⟩
 rotate_left
 ·have HB:=Go.Lib.hid (bl_then hB hb)
  have HRM:=Go.Lib.hid hrm
  clear hb hrm
  go_wp2_with fail
  go_ret
  exact⟨p,rfl,Only.of_below HB.out,fun q hq => .inl hq,.inr ⟨HRM.out,rfl,⟨I,⟨m,HI.out.bl HB.out⟩,rfl⟩⟩⟩
 dsimp only at hpb
 subst hpb
 obtain⟨I1,⟨m1,h1⟩,hIM⟩:=hcs
 have XB:=xb0
 replace xb0:=only_cell hO xb0 hxF
 replace xb1:=only_cell hO xb1 hxF
 replace xb2:=only_cell hO xb2 hxF
 replace xb3:=only_cell hO xb3 hxF
 replace xb4:=only_cell hO xb4 hxF
 replace xb5:=only_cell hO xb5 hxF
 replace xb6:=only_cell hO xb6 hxF
 replace xb7:=only_cell hO xb7 hxF
 replace xb8:=only_cell hO xb8 hxF
 replace xb9:=only_cell hO xb9 hxF
 replace xb10:=only_cell hO xb10 hxF
 have hO0:Only (CF p) w v1:=(Only.of_below hB).trans hO
 have hF0:∀ q,CF (⟨p.b,tp1,mb1⟩:CsP) q→CF p q∨w.heap.size≤q:=fun q hq=>(hF q hq).imp id (fun e=>Nat.le_trans hB.size e)
 have hlbx:w.heap.size<w4.heap.size:=by have:=World.block_lt_of_cell? _ _ XB;exact this
 have hxF1:¬ CF (⟨p.b,tp1,mb1⟩:CsP) w.heap.size:=fun hq=>(hF _ hq).elim hxF (fun e=>by omega)
 have HTX:Hid (¬ TF tp1 w.heap.size):=Go.Lib.hid (fun hq=>hxF1 (.inr (.inr hq)))
 have hxm:w.heap.size≠mb1:=fun e=>hxF1 (.inr (.inl e))
 replace c1:=h1.mm.c1
 replace c2:=h1.mm.c2
 have c3:=h1.mm.c3
 have fz3:=h1.mm.fz 3 (by omega)
 have hbt:=h1.mm.bt
 have hbm:=h1.mm.bm
 dsimp only at c1 c2 c3 fz3 hbt hbm
 have hsub:=room_sub hrm
 have hx1:∀ e ∈ I1.map CI.kv,e.1≠KY.data.toList:=fun e he=>by
  obtain⟨j,hj,rfl⟩:=List.mem_map.1 he
  have hjm:j.x ∈ I.map (·.x):=hsub.subset (hIM ▸ List.mem_map.2 ⟨j,hj,rfl⟩)
  obtain⟨j',hj',e'⟩:=List.mem_map.1 hjm
  rw[← HKY.out]
  exact fun e2=>HX.out j'.kv (List.mem_map.2 ⟨j',hj',rfl⟩) (by show j'.x.key=_;rw[e'];exact e2)
 have hl1:(I1.map CI.kv).length<room:=by rw[← hIM,List.length_map] at hMl;rw[List.length_map];exact hMl
 have hml:m1.length<maxLen:=by have h2:=h1.room_le;have h3:=h1.len;rw[h3];simp only[maxLen];omega
 have lb_b:=lbc xb0
 have hqne:p.b≠w.heap.size:=by omega
 have hqne2:w.heap.size≠p.b:=by omega
 have H1:=Go.Lib.hid h1
 have HIM:=Go.Lib.hid hIM
 have HRM:=Go.Lib.hid hrm
 have HO0:=Go.Lib.hid hO0
 have HF0:=Go.Lib.hid hF0
 have HX1:=Go.Lib.hid hx1
 have HL1:=Go.Lib.hid hl1
 have HML:=Go.Lib.hid hml
 clear XB h1 hIM hrm hO hF hMl hsub hO0 hF0 hx1 hl1 hml hB hsw
 go_wp2_with fail
 have hml:=HML.out
 have hm0:=H1.out.mm.next
 have ht0:=tab_set (ad:=⟨p.b,3,none⟩) H1.out.tb H1.out.mm.bt (.int .i64 ((nx:Int)+1))
 have hO0:Only (CF (⟨p.b,tp1,mb1⟩:CsP)) v1 (v1.setCell ⟨p.b,3,none⟩ (.int .i64 ((nx:Int)+1))):=(Only.of_below (bl_refl v1)).set (a:=⟨p.b,3,none⟩) (.inl rfl) _
 replace c1:=hm0.c1
 replace c2:=hm0.c2
 dsimp only at c1 c2 hm0 ht0
 clear c3 fz3
 replace xb0:=far_set (a:=⟨p.b,3,none⟩) xb0 (.int .i64 ((nx:Int)+1)) (by dsimp only;omega)
 replace xb1:=far_set (a:=⟨p.b,3,none⟩) xb1 (.int .i64 ((nx:Int)+1)) (by dsimp only;omega)
 replace xb2:=far_set (a:=⟨p.b,3,none⟩) xb2 (.int .i64 ((nx:Int)+1)) (by dsimp only;omega)
 replace xb3:=far_set (a:=⟨p.b,3,none⟩) xb3 (.int .i64 ((nx:Int)+1)) (by dsimp only;omega)
 replace xb4:=far_set (a:=⟨p.b,3,none⟩) xb4 (.int .i64 ((nx:Int)+1)) (by dsimp only;omega)
 replace xb5:=far_set (a:=⟨p.b,3,none⟩) xb5 (.int .i64 ((nx:Int)+1)) (by dsimp only;omega)
 replace xb6:=far_set (a:=⟨p.b,3,none⟩) xb6 (.int .i64 ((nx:Int)+1)) (by dsimp only;omega)
 replace xb7:=far_set (a:=⟨p.b,3,none⟩) xb7 (.int .i64 ((nx:Int)+1)) (by dsimp only;omega)
 replace xb8:=far_set (a:=⟨p.b,3,none⟩) xb8 (.int .i64 ((nx:Int)+1)) (by dsimp only;omega)
 replace xb9:=far_set (a:=⟨p.b,3,none⟩) xb9 (.int .i64 ((nx:Int)+1)) (by dsimp only;omega)
 replace xb10:=far_set (a:=⟨p.b,3,none⟩) xb10 (.int .i64 ((nx:Int)+1)) (by dsimp only;omega)
 have hTF1:∀ q,TF tp1 q→CF (⟨p.b,tp1,mb1⟩:CsP) q∨v1.heap.size≤q:=fun q hq => .inl (.inr (.inr hq))
 have hTx:¬ TF tp1 w.heap.size:=HTX.out
 refine wp_region_held_drew (S:=fun X=>X.cell? ⟨p.b,1,none⟩=some (.pointer (some ⟨tp1.b,0,none⟩))∧X.cell? ⟨w.heap.size,0,none⟩=some (.string KY)) (by kernel_rfl) ?_ (fun hHeld=>?_)
 ·exact⟨c1,xb0⟩
 try simp only[Act.put,List.setIfInBounds_toArray,List.set_cons_zero,List.set_cons_succ]
 refine wpAnyH_abs (F:=fun X=>CsM X (⟨p.b,tp1,mb1⟩:CsP) room (nx+1) m1∧TabL X tp1 room (I1.map CI.kv)∧Only (CF (⟨p.b,tp1,mb1⟩:CsP)) v1 X∧X.cell? ⟨p.b,2,none⟩=some (.map (some mb1))∧X.cell? ⟨w.heap.size,0,none⟩=some (.string KY)∧X.cell? ⟨w.heap.size,1,none⟩=some (.int .i64 k)∧X.cell? ⟨w.heap.size,2,none⟩=some (.int .i64 l)∧X.cell? ⟨w.heap.size,3,none⟩=some (.int .i64 d)∧X.cell? ⟨w.heap.size,4,none⟩=some (.int .i64 b)∧X.cell? ⟨w.heap.size,5,none⟩=some (.int .i64 cc)∧X.cell? ⟨w.heap.size,6,none⟩=some (.bool o)∧X.cell? ⟨w.heap.size,7,none⟩=some (.int .i64 at_)∧X.cell? ⟨w.heap.size,8,none⟩=some (.int .i64 level)∧X.cell? ⟨w.heap.size,9,none⟩=some (.int .i64 held)∧X.cell? ⟨w.heap.size,10,none⟩=some (.slice a n c)) hHeld ⟨hm0.frame rfl rfl,ht0.frame (fun _ _=>rfl),hO0.drew,c2,xb0,xb1,xb2,xb3,xb4,xb5,xb6,xb7,xb8,xb9,xb10⟩ ?_
 clear hHeld hm0 ht0 hO0 c1 c2 xb0 xb1 xb2 xb3 xb4 xb5 xb6 xb7 xb8 xb9 xb10
 rintro X0 hHeld ⟨hm0,ht0,hO0,c2,xb0,xb1,xb2,xb3,xb4,xb5,xb6,xb7,xb8,xb9,xb10⟩
 refine tkx 0 ?_
 refine tkx 1 ?_
 refine tkx 2 ?_
 refine tkx 3 ?_
 refine tkx 4 ?_
 refine tkx 5 ?_
 refine tkx 6 ?_
 refine callC (i:=7) rfl (fun K hK=>?_)
 obtain⟨h_c1,h_xb0⟩:=(id hHeld)
 go_simp
 refine(HPUT.out _ tp1 _ ht0 HX1.out HL1.out).mono ?_
 rintro e X7 ⟨rfl,tp2,hb2,htl,hO,hTF⟩
 have HO7:=Go.Lib.hid hO
 have HTL7:=Go.Lib.hid htl
 clear hO htl
 go_wp2_with fail
 refine hK.out _ _ ?_ (fun hHeld2=>?_)
 ·exact⟨only_cell HO7.out h_c1 hbt,only_cell HO7.out h_xb0 hTx⟩
 clear hHeld hK K h_c1 h_xb0
 have hHeld:=hHeld2
 clear hHeld2
 try simp only[Act.put,List.setIfInBounds_toArray,List.set_cons_zero,List.set_cons_succ]
 refine wpAnyH_done (by kernel_rfl) ?_ _
 clear hHeld
 have hm7:=hm0.tab (tp:=tp2) HO7.out hTF hb2
 have hO7:Only (CF (⟨p.b,tp1,mb1⟩:CsP)) v1 X7:=only_grow hO0 HO7.out hTF1
 have hF7:∀ q,CF ⟨p.b,tp2,mb1⟩ q→CF (⟨p.b,tp1,mb1⟩:CsP) q∨v1.heap.size≤q:=fun q hq=>by
  rcases hq with rfl|rfl|hq
  ·exact .inl (.inl rfl)
  ·exact .inl (.inr (.inl rfl))
  ·exact(hTF q hq).elim (fun h=>hTF1 q h) (fun h => .inr (Nat.le_trans hO0.size h))
 replace c2:=only_cell HO7.out c2 hbt
 replace xb0:=only_cell HO7.out xb0 hTx
 replace xb1:=only_cell HO7.out xb1 hTx
 replace xb2:=only_cell HO7.out xb2 hTx
 replace xb3:=only_cell HO7.out xb3 hTx
 replace xb4:=only_cell HO7.out xb4 hTx
 replace xb5:=only_cell HO7.out xb5 hTx
 replace xb6:=only_cell HO7.out xb6 hTx
 replace xb7:=only_cell HO7.out xb7 hTx
 replace xb8:=only_cell HO7.out xb8 hTx
 replace xb9:=only_cell HO7.out xb9 hTx
 replace xb10:=only_cell HO7.out xb10 hTx
 have HTL:=Go.Lib.hid HTL7.out
 have HM7:=Go.Lib.hid hm7
 have HO77:=Go.Lib.hid hO7
 have HF7:=Go.Lib.hid hF7
 clear hm0 ht0 hO0 hm7 hO7 hF7 HO7 HTL7 hTF
 go_wp2_with fail
 refine wp_region_held_drew (S:=fun X=>X.cell? ⟨p.b,2,none⟩=some (.map (some mb1))∧X.cell? ⟨w.heap.size,0,none⟩=some (.string KY)∧X.cell? ⟨w.heap.size,1,none⟩=some (.int .i64 k)∧X.cell? ⟨w.heap.size,2,none⟩=some (.int .i64 l)∧X.cell? ⟨w.heap.size,3,none⟩=some (.int .i64 d)∧X.cell? ⟨w.heap.size,4,none⟩=some (.int .i64 b)∧X.cell? ⟨w.heap.size,5,none⟩=some (.int .i64 cc)∧X.cell? ⟨w.heap.size,6,none⟩=some (.bool o)∧X.cell? ⟨w.heap.size,7,none⟩=some (.int .i64 at_)∧X.cell? ⟨w.heap.size,8,none⟩=some (.int .i64 level)∧X.cell? ⟨w.heap.size,9,none⟩=some (.int .i64 held)∧X.cell? ⟨w.heap.size,10,none⟩=some (.slice a n c)) (by kernel_rfl) ?_ (fun hHeld=>?_)
 ·exact⟨c2,xb0,xb1,xb2,xb3,xb4,xb5,xb6,xb7,xb8,xb9,xb10⟩
 try simp only[Act.put,List.setIfInBounds_toArray,List.set_cons_zero,List.set_cons_succ]
 refine wpAnyH_abs (F:=fun X=>CsM X ⟨p.b,tp2,mb1⟩ room (nx+1) m1∧TabL X tp2 room (I1.map CI.kv ++ [(KY.data.toList,(nx:Int)+1)])∧Only (CF (⟨p.b,tp1,mb1⟩:CsP)) v1 X) hHeld ⟨HM7.out.frame rfl rfl,HTL.out.frame (fun _ _=>rfl),HO77.out.drew⟩ ?_
 clear hHeld c2 HM7 HTL HO77 xb0 xb1 xb2 xb3 xb4 xb5 xb6 xb7 xb8 xb9 xb10
 rintro Y0 hHeld ⟨hm,htl,hO⟩
 refine tkx 0 ?_
 refine tkx 1 ?_
 refine tkx 2 ?_
 refine tkx 3 ?_
 refine tkx 4 ?_
 refine tkx 5 ?_
 refine callC (i:=6) rfl (fun K hK=>?_)
 obtain⟨h_c2,h_xb0,h_xb1,h_xb2,h_xb3,h_xb4,h_xb5,h_xb6,h_xb7,h_xb8,h_xb9,h_xb10⟩:=(id hHeld)
 go_simp
 refine(HCP.out _ (log_only HLG.out (only_grow HO0.out hO HF0.out) HFAR.out)).mono ?_
 rintro e Y6 ⟨a',c',rfl,hown,hb⟩
 have HB6:=Go.Lib.hid hb
 have HOW:=Go.Lib.hid hown
 clear hb hown
 go_wp2_with fail
 refine hK.out _ _ ?_ (fun hHeld2=>?_)
 ·exact⟨bl_cell HB6.out h_c2,bl_cell HB6.out h_xb0,bl_cell HB6.out h_xb1,bl_cell HB6.out h_xb2,bl_cell HB6.out h_xb3,bl_cell HB6.out h_xb4,bl_cell HB6.out h_xb5,bl_cell HB6.out h_xb6,bl_cell HB6.out h_xb7,bl_cell HB6.out h_xb8,bl_cell HB6.out h_xb9,bl_cell HB6.out h_xb10⟩
 clear hHeld hK K h_c2 h_xb0 h_xb1 h_xb2 h_xb3 h_xb4 h_xb5 h_xb6 h_xb7 h_xb8 h_xb9 h_xb10
 have hHeld:=hHeld2
 clear hHeld2
 try simp only[Act.put,List.setIfInBounds_toArray,List.set_cons_zero,List.set_cons_succ]
 have hsz6:=hO.size
 have hmb:=hm.lt
 have htlt:=htl.lt
 have hb6:=HB6.out
 replace hm:=hm.frame (hb6.block _ hm.lt.1) (hb6.block _ hm.lt.2)
 replace htl:=tabl_bl htl hb6
 have HFB:Hid (∀ q,CF ⟨p.b,tp2,mb1⟩ q→q<Y0.heap.size):=Go.Lib.hid (fun q hq=>by rcases hq with rfl|rfl|hq;exact hmb.1;exact hmb.2;exact htlt q hq)
 replace hO:Only (CF (⟨p.b,tp1,mb1⟩:CsP)) v1 Y6:=hO.trans (Only.of_below hb6)
 clear hb6 htlt
 obtain⟨Y7,hrun,hmap,hturn⟩:=imap_store hm.mp Tryz.underlying3 map_und hml ((nx:Int)+1) HWF.out (.agg #[.string KY,.int .i64 k,.int .i64 l,.int .i64 d,.int .i64 b,.int .i64 cc,.bool o,.int .i64 at_,.int .i64 level,.int .i64 held,.slice a' n c'])
 replace hrun:(Instr.mapUpdate 93 (.map (some mb1)) (.int .i64 ((nx:Int)+1)) (.agg #[.string KY,.int .i64 k,.int .i64 l,.int .i64 d,.int .i64 b,.int .i64 cc,.bool o,.int .i64 at_,.int .i64 level,.int .i64 held,.slice a' n c'])).run Tryz.prog Y6=.ok () Y7:=hrun
 have HM:=Go.Lib.hid (hm.turn hturn hmap)
 have HTL:=Go.Lib.hid (turn_tab hturn htl hm.mt)
 have HOM:=Go.Lib.hid (only_grow hO (turn_only (F:=fun k=>k=mb1) hturn rfl) (fun q hq=>by subst hq;exact .inl (.inr (.inl rfl))))
 clear hm htl hmap hO
 refine callC (i:=7) rfl (fun K hK=>?_)
 obtain⟨h_c2,h_xb0,h_xb1,h_xb2,h_xb3,h_xb4,h_xb5,h_xb6,h_xb7,h_xb8,h_xb9,h_xb10⟩:=(id hHeld)
 go_simp
 refine hK.out _ _ ?_ (fun hHeld2=>?_)
 ·exact⟨turn_cell hturn h_c2 hbm,turn_cell hturn h_xb0 hxm,turn_cell hturn h_xb1 hxm,turn_cell hturn h_xb2 hxm,turn_cell hturn h_xb3 hxm,turn_cell hturn h_xb4 hxm,turn_cell hturn h_xb5 hxm,turn_cell hturn h_xb6 hxm,turn_cell hturn h_xb7 hxm,turn_cell hturn h_xb8 hxm,turn_cell hturn h_xb9 hxm,turn_cell hturn h_xb10 hxm⟩
 clear hHeld hK K h_c2 h_xb0 h_xb1 h_xb2 h_xb3 h_xb4 h_xb5 h_xb6 h_xb7 h_xb8 h_xb9 h_xb10
 have hHeld:=hHeld2
 clear hHeld2
 try simp only[Act.put,List.setIfInBounds_toArray,List.set_cons_zero,List.set_cons_succ]
 refine wpAnyH_done (by kernel_rfl) ?_ _
 clear hHeld
 have HTU:=Go.Lib.hid hturn
 clear hturn hrun
 go_wp2_with fail
 go_ret
 have hne:∀ j ∈ I1,j.v≠(nx:Int)+1:=fun j hj e=>by have:=(H1.out.ci j hj).hi;omega
 have hno:=H1.out.none_at hne
 have hlen:(iPut ((nx:Int)+1) (Cl.v ⟨key,⟨k,l,d,b,cc,o⟩,⟨at_,level,held,L⟩⟩ a' n c') m1).length=I1.length+1:=by
  rw[iPut_len _ _ (imap_nodup H1.out.mm.mp Tryz.underlying3),hno,H1.out.len]
  rfl
 have ht':TabL Y7 tp2 room (I1.map CI.kv ++ [(key,(nx:Int)+1)]):=by rw[HKY.out];exact HTL.out
 have hmm:CsM Y7 ⟨p.b,tp2,mb1⟩ room (nx+1) (iPut ((nx:Int)+1) (Cl.v ⟨key,⟨k,l,d,b,cc,o⟩,⟨at_,level,held,L⟩⟩ a' n c') m1):=by unfold Cl.v;dsimp only;rw[HKT.out];exact HM.out
 have hlg:=own_turn HTU.out HOW.out (HFB.out mb1 (.inr (.inl rfl)))
 have hcs:=CsI.laid (x:=⟨key,⟨k,l,d,b,cc,o⟩,⟨at_,level,held,L⟩⟩) (I:=I1) (p:=⟨p.b,tp1,mb1⟩) (fun j hj=>H1.out.ci j hj) H1.out.nd (Nat.le_succ _) hmm ht' HOM.out HF7.out hlg HFB.out HR.out (by omega) (by omega) hne (fun _ _=>rfl) hlen
 exact⟨⟨p.b,tp2,mb1⟩,rfl,only_grow HO0.out HOM.out HF0.out,fun q hq=>(HF7.out q hq).elim (fun h=>HF0.out q h) (fun h => .inr (Nat.le_trans HO0.out.size h)),.inl ⟨M,HRM.out,rfl,⟨_,⟨_,hcs⟩,by rw[List.map_append,HIM.out];rfl⟩⟩⟩
end Go.Proofs.YtmhikkbdhboodaaGreat

namespace Go.Proofs.YtmhikkbdhboodaaGreat
open Go.RowKit Go.Maps
set_option linter.unusedVariables false
set_option linter.unusedSimpArgs false

/-- A cell of a row: its log's slice. -/
structure LC where
 x:Cl
 a:Option Addr
 n:Nat
 c:Nat
def lcell (i:LC):List Value:=[.string (ktx i.x.key),.int .i64 i.x.pol.kind,.int .i64 i.x.pol.limit,.int .i64 i.x.pol.period,.int .i64 i.x.pol.burst,.int .i64 i.x.pol.cap,.bool i.x.pol.opn,.int .i64 i.x.st.at_,.int .i64 i.x.st.level,.int .i64 i.x.st.held,.slice i.a i.n i.c]
def lcells:List LC→List Value
 | []=>[]
 | i :: r=>lcell i ++ lcells r
theorem lcell_len (i:LC):(lcell i).length=11:=rfl
theorem lcells_len:∀ Js:List LC,(lcells Js).length=Js.length*11
 | []=>rfl
 | i :: r=>by show(lcell i ++ lcells r).length=_;rw[List.length_append,lcells_len r,lcell_len,List.length_cons];omega
theorem lcells_append:∀ (A B:List LC),lcells (A ++ B)=lcells A ++ lcells B
 | [],_=>rfl
 | i :: r,B=>by show lcell i ++ lcells (r ++ B)=_;rw[lcells_append r B];show _=(lcell i ++ lcells r) ++ lcells B;rw[List.append_assoc]
theorem lcells_one (i:LC):lcells [i]=lcell i:=List.append_nil _
theorem lcells_get (k:Nat) (hk:k<11):∀ (Js:List LC) (j:Nat) (i:LC),Js[j]?=some i→(lcells Js)[j*11+k]?=(lcell i)[k]?
 | [],j,i,h=>by simp at h
 | y :: r,0,i,h=>by
  have:y=i:=by simpa using h
  subst this
  show(lcell y ++ lcells r)[0*11+k]?=_
  rw[List.getElem?_append_left (by rw[lcell_len];omega)]
  simp
 | y :: r,j+1,i,h=>by
  show(lcell y ++ lcells r)[(j+1)*11+k]?=_
  rw[List.getElem?_append_right (by rw[lcell_len];omega),lcell_len,show(j+1)*11+k - 11=j*11+k by omega]
  exact lcells_get k hk r j i (by simpa using h)
theorem lcell_one (i:LC):∀ u ∈ lcell i,u.oneCell'=true:=by
 intro u h
 simp only[lcell,List.mem_cons,List.not_mem_nil,or_false] at h
 rcases h with rfl|rfl|rfl|rfl|rfl|rfl|rfl|rfl|rfl|rfl|rfl <;> rfl
/-- A row of cells, and their logs. -/
def CRow (w:World) (base:Nat) (v:Value) (Js:List LC):Prop:=w.ownsRow base 59 11 v Js.length (lcells Js)∧∀ i ∈ Js,LogAt w i.a i.n i.c i.x.st.log
theorem row_base {w:World} {B B' e size:Nat} {v:Value} {n:Nat} {xs:List Value} (h:w.ownsRow B e size v n xs) (hb:B'≤B):w.ownsRow B' e size v n xs:=by
 obtain⟨hl,h⟩:=h
 refine⟨hl,?_⟩
 rcases h with h|⟨g,cap,cur,e,h2,h3⟩
 ·exact .inl h
 ·exact .inr ⟨g,cap,cur,e,by omega,h3⟩
theorem row_bl {w w':World} {B e size:Nat} {v:Value} {n:Nat} {xs:List Value} (h:w.ownsRow B e size v n xs) (hb:Below w.heap.size w w'):w'.ownsRow B e size v n xs :=
 row_frame h fun k hk=>hb.block k (World.ownsRow.lt h k hk).2
theorem crow_bl {w w':World} {base:Nat} {v:Value} {Js:List LC} (h:CRow w base v Js) (hb:Below w.heap.size w w'):CRow w' base v Js:=⟨row_bl h.1 hb,fun i hi=>log_bl (h.2 i hi) hb⟩
theorem crow_base {w:World} {B B':Nat} {v:Value} {Js:List LC} (h:CRow w B v Js) (hb:B'≤B):CRow w B' v Js:=⟨row_base h.1 hb,h.2⟩
theorem crow_nil (w:World) (base:Nat):CRow w base (.slice none 0 0) []:=⟨World.ownsRow_nil _ _ _ _,fun i hi=>by cases hi⟩
/-- Rows of other things lie elsewhere. -/
theorem rows_apart {w:World} {b1 b2 e1 e2 s1 s2 n1 n2:Nat} {v1 v2:Value} {x1 x2:List Value} (h1:w.ownsRow b1 e1 s1 v1 n1 x1) (h2:w.ownsRow b2 e2 s2 v2 n2 x2) (he:e1≠e2):∀ k,v1.ownBlock=some k→v2.ownBlock≠some k:=fun k hk1 hk2=>by
 rcases h1.2 with⟨rfl,-⟩|⟨g,cap,cur,rfl,-,hg,-⟩
 ·cases hk1
 ·rcases h2.2 with⟨rfl,-⟩|⟨g2,cap2,cur2,rfl,-,hg2,-⟩
  ·cases hk2
  ·injection hk1 with hk1
   injection hk2 with hk2
   dsimp only at hk1 hk2
   subst hk1 hk2
   rw[hg] at hg2
   injection hg2 with hg2
   injection hg2 with _ e
   exact he e
/-- One cell of a row. -/
theorem crow_at {w:World} {base:Nat} {v:Value} {Js:List LC} (h:CRow w base v Js) {j:Nat} {i:LC} (hj:Js[j]?=some i):∃ g cap,v=.slice (some ⟨g,0,none⟩) Js.length cap ∧
  w.cell? ⟨g,j*11,none⟩=some (.string (ktx i.x.key))∧w.cell? ⟨g,j*11+1,none⟩=some (.int .i64 i.x.pol.kind)∧w.cell? ⟨g,j*11+2,none⟩=some (.int .i64 i.x.pol.limit)∧w.cell? ⟨g,j*11+3,none⟩=some (.int .i64 i.x.pol.period) ∧
  w.cell? ⟨g,j*11+4,none⟩=some (.int .i64 i.x.pol.burst)∧w.cell? ⟨g,j*11+5,none⟩=some (.int .i64 i.x.pol.cap)∧w.cell? ⟨g,j*11+6,none⟩=some (.bool i.x.pol.opn)∧w.cell? ⟨g,j*11+7,none⟩=some (.int .i64 i.x.st.at_) ∧
  w.cell? ⟨g,j*11+8,none⟩=some (.int .i64 i.x.st.level)∧w.cell? ⟨g,j*11+9,none⟩=some (.int .i64 i.x.st.held)∧w.cell? ⟨g,j*11+10,none⟩=some (.slice i.a i.n i.c):=by
 have hlt:j<Js.length:=(List.getElem?_eq_some_iff.1 hj).1
 have hr:=h.1
 rcases hr.2 with⟨-,h0⟩|⟨g,cap,cur,hv,-⟩
 ·omega
 ·rw[hv] at hr
  have hc:=fun k (hk:k<11)=>(World.ownsRow.cellAt hr (j*11+k) (by omega)).trans (lcells_get k hk Js j i hj)
  refine⟨g,cap,hv,?_,?_,?_,?_,?_,?_,?_,?_,?_,?_,?_⟩
  ·have:=hc 0 (by omega);rw[Nat.add_zero] at this;exact this
  ·exact hc 1 (by omega)
  ·exact hc 2 (by omega)
  ·exact hc 3 (by omega)
  ·exact hc 4 (by omega)
  ·exact hc 5 (by omega)
  ·exact hc 6 (by omega)
  ·exact hc 7 (by omega)
  ·exact hc 8 (by omega)
  ·exact hc 9 (by omega)
  ·exact hc 10 (by omega)
theorem infoC:(Tryz.prog.info? 59).map (fun i=>(i.zero,i.size,i.bytes))=some (some (.agg #[.string { data := #[] },.int .i64 0,.int .i64 0,.int .i64 0,.int .i64 0,.int .i64 0,.bool false,.int .i64 0,.int .i64 0,.int .i64 0,.slice none 0 0]),11,112):=by kernel_rfl
theorem undC:Tryz.prog.underlying 53=some (.slice 59):=by kernel_rfl

variable {w w':World} {p p':CsP} {room nx nx':Nat} {m m':List (Int × Value)} {I A B:List CI} {L:List Cl}
/-- What a step of cells leaves. -/
def CsStep (w:World) (p:CsP) (room nx:Nat) (L':List Cl) (w':World):Prop:=∃ (p':CsP) (nx':Nat),p'.b=p.b∧nx'≤nx+1∧CellsAt w' p' room nx' L'∧Only (CF p) w w'∧∀ q,CF p' q→CF p q∨w.heap.size≤q
theorem step_same (h:CellsAt w p room nx L) (hb:Below w.heap.size w w'):CsStep w p room nx L w':=⟨p,nx,rfl,Nat.le_succ _,cells_bl h hb,Only.of_below hb,fun q hq => .inl hq⟩
theorem csset_any (x:Cl) (a:Option Addr) (n c:Nat) (now:Int) (h:CellsAt w p room nx L) (hl:LogAt w a n c x.st.log) (hfar:∀ ad,a=some ad→n≠0→¬ CF p ad.block) (hs:x.key.length≤maxLen) (hnx:nx<4611686018427387904) :
  Calls Tryz.prog 40 #[.pointer (some ⟨p.b,0,none⟩),x.v a n c,.int .i64 now] w fun e w'=>e=.returned (.int .i64 (cSet room L x now).2)∧CsStep w p room nx (cSet room L x now).1 w':=by
 have hC:=h
 obtain⟨I,⟨m,h⟩,rfl⟩:=h
 unfold cSet
 cases hr:rightP x.pol x.st with
 | false =>
  rw[if_pos rfl]
  refine(csset_arg x a n c now h hl hs hnx hr).mono ?_
  rintro e w' ⟨rfl,hb⟩
  exact⟨rfl,step_same hC hb⟩
 | true =>
  rw[if_neg (by simp)]
  cases hf:cFresh now x with
  | true =>
   rw[if_pos rfl]
   rcases ci_find I x.key with hx|⟨A,i,B,rfl,hk⟩
   ·refine (csset_freshno x a n c now hx h hl hs hnx hr hf).mono ?_
    rintro e w' ⟨rfl,hb⟩
    have e1:cWithout (I.map (·.x)) x.key=I.map (·.x):=without_no fun y hy=>by
     obtain⟨j,hj,rfl⟩:=List.mem_map.1 hy
     exact hx j.kv (List.mem_map.2 ⟨j,hj,rfl⟩)
    refine⟨rfl,?_⟩
    dsimp only
    rw[e1]
    exact step_same hC hb
   ·refine (csset_fresh x a n c now hk h hl hs hnx hr hf).mono ?_
    rintro e w' ⟨rfl,p',h1,h2,h3,h4⟩
    have hap:=h.keys
    have e1:cWithout ((A ++ i :: B).map (·.x)) x.key=(A ++ B).map (·.x):=by
     rw[← hk,List.map_append,List.map_cons] at *
     rw[without_mid hap,List.map_append]
    refine⟨rfl,?_⟩
    dsimp only
    rw[e1]
    exact⟨p',nx,h1,Nat.le_succ _,⟨_,⟨_,h2⟩,rfl⟩,h3,h4⟩
  | false =>
   rw[if_neg (by simp)]
   rcases ci_find I x.key with hx|⟨A,i,B,rfl,hk⟩
   ·have hh:cHas (I.map (·.x)) x.key=false:=has_false.2 fun y hy=>by
     obtain⟨j,hj,rfl⟩:=List.mem_map.1 hy
     exact hx j.kv (List.mem_map.2 ⟨j,hj,rfl⟩)
    rw[hh,if_neg (by simp)]
    refine(csset_new x a n c now hx h hl hfar hs hnx hr hf).mono ?_
    rintro e w' ⟨p',h1,h2,h3,⟨M,h4,rfl,h5⟩|⟨h4,rfl,h5⟩⟩
    ·rw[h4]
     exact⟨rfl,p',nx+1,h1,Nat.le_refl _,h5,h2,h3⟩
    ·rw[h4]
     exact⟨rfl,p',nx,h1,Nat.le_succ _,h5,h2,h3⟩
   ·have hh:cHas ((A ++ i :: B).map (·.x)) x.key=true:=by
     unfold cHas
     rw[List.any_eq_true]
     exact⟨i.x,List.mem_map.2 ⟨i,by simp,rfl⟩,by simpa using hk⟩
    rw[hh,if_pos rfl]
    refine(csset_there x a n c now hk h hl hfar hs hnx hr hf).mono ?_
    rintro e w' ⟨rfl,p',h1,⟨m',a',c',h2⟩,h3,h4⟩
    have hap:=h.keys
    have e1:cWithout ((A ++ i :: B).map (·.x)) x.key=(A ++ B).map (·.x):=by
     rw[← hk,List.map_append,List.map_cons] at *
     rw[without_mid hap,List.map_append]
    refine⟨rfl,?_⟩
    dsimp only
    rw[e1]
    exact⟨p',nx,h1,Nat.le_succ _,⟨_,⟨_,h2⟩,by simp⟩,h3,h4⟩
theorem cfind_key {L:List Cl} {k:Key} {q:Pol} (h:∀ x ∈ L,x.key≠k):L.find? (fun x=>x.key == k && polE x.pol q)=none:=by
 rw[List.find?_eq_none]
 intro x hx
 simp[h x hx]
theorem cslook_any (s:ByteArray) (q:Pol) (now:Int) (h:CellsAt w p room nx L) (hs:s.size≤maxLen) (hnx:nx<4611686018427387904) :
  Calls Tryz.prog 41 #[.pointer (some ⟨p.b,0,none⟩),.string s,q.v,.int .i64 now] w fun e w'=>∃ (a':Option Addr) (n' c':Nat),e=.returned ((cLook L s.data.toList q now).v a' n' c')∧OwnLog w' w.heap.size (.slice a' n' c') n' (cLook L s.data.toList q now).log∧Below w.heap.size w w':=by
 obtain⟨I,⟨m,h⟩,rfl⟩:=h
 rcases ci_find I s.data.toList with hx|⟨A,i,B,rfl,hk⟩
 ·have e1:cLook (I.map (·.x)) s.data.toList q now=newP q now:=by
   unfold cLook
   rw [cfind_key fun y hy=>by
    obtain⟨j,hj,rfl⟩:=List.mem_map.1 hy
    exact hx j.kv (List.mem_map.2 ⟨j,hj,rfl⟩)]
  rw[e1]
  exact cslook_no s q now hx h hs hnx
 ·have hap:=h.keys
  have hap':=hap
  unfold Apart at hap'
  rw[List.map_map,List.map_append,List.map_cons,List.nodup_append] at hap'
  have hA:∀ x ∈ A.map (·.x),x.key≠s.data.toList:=fun x hx e=>by
   obtain⟨j,hj,rfl⟩:=List.mem_map.1 hx
   exact hap'.2.2 j.x.key (List.mem_map.2 ⟨j,hj,rfl⟩) i.x.key (List.mem_cons_self ..) (e.trans hk.symm)
  have hB:∀ x ∈ B.map (·.x),x.key≠s.data.toList:=fun x hx e=>by
   obtain⟨j,hj,rfl⟩:=List.mem_map.1 hx
   exact(List.nodup_cons.1 hap'.2.1).1 (List.mem_map.2 ⟨j,hj,e.trans hk.symm⟩)
  cases hne:polE i.x.pol q with
  | true =>
   have e1:cLook ((A ++ i :: B).map (·.x)) s.data.toList q now=i.x.st:=by
    unfold cLook
    rw[List.map_append,List.map_cons,List.find?_append,cfind_key hA,List.find?_cons]
    simp[hk,hne]
   rw[e1]
   exact cslook_is s q now hk hne h hs hnx
  | false =>
   have e1:cLook ((A ++ i :: B).map (·.x)) s.data.toList q now=newP q now:=by
    unfold cLook
    rw[List.map_append,List.map_cons,List.find?_append,cfind_key hA,List.find?_cons]
    simp only[hne,Bool.and_false,Option.none_or]
    rw[cfind_key hB]
   rw[e1]
   exact cslook_other s q now hk hne h hs hnx
end Go.Proofs.YtmhikkbdhboodaaGreat

namespace Go.Proofs.YtmhikkbdhboodaaGreat
open Go.RowKit Go.Maps
set_option linter.unusedVariables false
set_option linter.unusedSimpArgs false

theorem cs_form {w:World} {base e size n:Nat} {v:Value} {xs:List Value} (h:w.ownsRow base e size v n xs):∃ a c,v=.slice a n c:=by
 rcases h.2 with⟨rfl,rfl⟩|⟨g,cap,cur,rfl,-⟩
 ·exact⟨none,0,rfl⟩
 ·exact⟨_,cap,rfl⟩
theorem row_cell {w:World} {base e n:Nat} {v:Value} {xs:List Value} (h:w.ownsRow base e 1 v n xs) {j:Nat} {u:Value} (hj:xs[j]?=some u):∃ g cap,v=.slice (some ⟨g,0,none⟩) n cap∧w.cell? ⟨g,j,none⟩=some u:=by
 have hlt:j<xs.length:=(List.getElem?_eq_some_iff.1 hj).1
 have hl:=h.1
 rcases h.2 with⟨-,h0⟩|⟨g,cap,cur,hv,-⟩
 ·omega
 ·refine⟨g,cap,hv,?_⟩
  rw[hv] at h
  exact(World.ownsRow.cellAt h j (by omega)).trans hj
theorem new_cells {W:World} {q:Nat} {u:Value} (cs:Array Value) (ty:TypeId) (h:cs.toList[q]?=some u):(W.alloc (.cells cs ty)).cell? ((⟨W.heap.size,0,none⟩:Addr).add q)=some u:=by
 rw[Addr.add_lit,Nat.zero_add]
 have e:=World.alloc_heap_new W (.cells cs ty)
 simp only[World.cell?,e]
 simpa using h
theorem split_nth {α:Type} {l:List α} {j:Nat} {i:α} (h:l[j]?=some i):l=l.take j ++ i :: l.drop (j+1)∧l.take (j+1)=l.take j ++ [i]:=by
 obtain⟨hlt,e⟩:=List.getElem?_eq_some_iff.1 h
 refine⟨?_,?_⟩
 ·rw[← e,← List.drop_eq_getElem_cons hlt,List.take_append_drop]
 ·rw[List.take_add_one,h]
  rfl
theorem own_grow {w3 w4:World} {B b k:Nat} {v u:Value} {n:Nat} {L:List (Int × Int)} {xs:List Value} {o:Obj} (ho:OwnLog w3 B v n L) (hr:w3.ownsRow b 59 11 u k xs) (hg:(w3.alloc o).grownBy w4 u.ownBlock):OwnLog w4 B v n L :=
 row_frame ho fun q hq=>by
  have hlt:=(World.ownsRow.lt ho q hq).2
  have hne:=rows_apart ho hr (by decide) q hq
  rw[hg.block q (by rw[World.size_alloc];omega) (fun e=>hne e.symm)]
  exact(bl_alloc (bl_refl w3) o).block q hlt
theorem csall_any {w:World} {p:CsP} {room nx:Nat} {L:List Cl} (h:CellsAt w p room nx L) (hnx:nx<4611686018427387904) :
  Calls Tryz.prog 35 #[.pointer (some ⟨p.b,0,none⟩)] w fun e w'=>∃ (v:Value) (Js:List LC),e=.returned v∧CRow w' w.heap.size v Js∧Js.map (·.x)=L∧(∀ i ∈ Js,OwnLog w' w.heap.size (.slice i.a i.n i.c) i.n i.x.st.log)∧Below w.heap.size w w':=by
 obtain⟨I,⟨m,h⟩,rfl⟩:=h
 have c1:=h.mm.c1
 have hky:=lkeys w h.tb
 rw[List.length_map] at hky
 have hrm:=h.room_le
 obtain⟨N,hN⟩:∃ N,N=I.length:=⟨_,rfl⟩
 rw[← hN] at hky hrm
 obtain⟨i0,hi,hz0,hz1,hz2⟩:=info_parts infoC
 have HI:=Go.Lib.hid h
 have HN:=Go.Lib.hid hN
 have HKY:=Go.Lib.hid hky
 clear h hN hky
 go_enter Tryz.func35,Tryz.ntmps35
 go_wp2_with fail
 refine HKY.out.mono ?_
 rintro e wk ⟨kv,rfl,hkr,hb⟩
 obtain⟨ka,kc,rfl⟩:=cs_form hkr
 have HB:=Go.Lib.hid hb
 have HKR:=Go.Lib.hid hkr
 clear hb hkr
 go_wp2_with fail
 go_loopw [3,16] (fun s3 s16 wr=>∃ (j:Nat) (Js:List LC),s16=.int .i64 j∧j≤N∧Hid (Js.map (·.x)=(I.take j).map (·.x)∧wr.ownsRow wk.heap.size 59 11 s3 j (lcells Js)∧(∀ i ∈ Js,OwnLog wr wk.heap.size (.slice i.a i.n i.c) i.n i.x.st.log)∧Below wk.heap.size wk wr))
  (fun s3 s16 _=>N - (intOf s16).toNat)
 case atStart=>exact⟨0,[],rfl,Nat.zero_le _,⟨rfl,World.ownsRow_nil _ _ _ _,(fun i hi=>by cases hi),bl_refl _⟩⟩
 case round =>
  obtain⟨j,Js,rfl,hj,H⟩:=hrel
  clear c1
  by_cases hjN:j<N
  ·obtain ⟨i,hij⟩:∃ i,I[j]?=some i:=⟨I[j]'(by rw[← HN.out];exact hjN),List.getElem?_eq_getElem _⟩
   obtain⟨hsp,htk⟩:=split_nth hij
   obtain⟨g,cap,e,hcell⟩:=row_cell (j:=j) (u:=kstr i.kv) HKR.out (by rw[List.map_map,List.getElem?_map,hij];rfl)
   injection e with e1 e2 e3
   subst e1 e3
   have hBw:=bl_then HB.out H.out.2.2.2
   have hCI:=HI.out.bl hBw
   have c1:=hCI.mm.c1
   have c2:=hCI.mm.c2
   have hc:=bl_cell H.out.2.2.2 hcell
   have him:i ∈ I:=by rw[hsp];simp
   have hlk:=hCI.lk hnx him
   have hlog:=(hCI.ci i him).log
   have hle:=hCI.log_le i him
   have hsz:(ktx i.x.key).size≤maxLen:=by rw[ktx_size];exact hCI.short i him
   have htb:=hCI.tb
   rw[hsp,kv_mid,← ktx_list i.x.key] at htb
   have hpk:=lpeek_some (ktx i.x.key) wr htb hsz
   have hcp:=fun W hW=>ccopied_any i.x i.a i.n i.c W hW hle
   replace hc:wr.cell? ⟨g,j,none⟩=some (.string (ktx i.x.key)):=hc
   have k0:(0:Int)≤(j:Int):=by omega
   have k1:(j:Int)<(N:Int):=by omega
   have HTK:=Go.Lib.hid htk
   have HLK:=Go.Lib.hid hlk
   have HLG:=Go.Lib.hid hlog
   have HPK:=Go.Lib.hid hpk
   have HCP:=Go.Lib.hid hcp
   obtain⟨v,⟨key,⟨k,l,d,b,cc,o⟩,⟨at_,level,held,L⟩⟩,a,n,c⟩:=i
   unfold CI.val Cl.v at HLK
   unfold Cl.v at HCP
   dsimp only at *
   generalize hKY:ktx key=KY at *
   have HKYE:=Go.Lib.hid hKY
   clear htk hlk hlog hpk hcp hCI htb hsp hij hsz him hBw hKY hcell hle
   go_wp2_with fail
   refine HPK.out.mono ?_
   rintro e w2 ⟨rfl,hb2⟩
   replace c2:=bl_cell hb2 c2
   have hrun:=(HLK.out.bl hb2).run
   have HB2:=Go.Lib.hid hb2
   clear hb2 hc c1
   go_wp2_with fail
   refine(HCP.out _ (log_bl HLG.out HB2.out)).mono ?_
   rintro e w3 ⟨a',c',rfl,hown,hb3⟩
   have HB3:=Go.Lib.hid hb3
   have HOW:=Go.Lib.hid hown
   have hrow3:=row_bl (row_bl H.out.2.1 HB2.out) hb3
   have hs2:=HB2.out.size
   have hs3:=hb3.size
   have hsr:=H.out.2.2.2.size
   clear hb3 hown hrun c2
   go_wp2_with (at_builtin;refine wpList_append_own _ rfl _ _ 53 rfl wk.heap.size 59 i0 _ 11 112 undC hi hz0 hz1 hz2 rfl (by decide) _ _ _ rfl (hrow3.alloc _) ⟨w3.heap.size,0,none⟩ 1 1 (lcell ⟨⟨key,⟨k,l,d,b,cc,o⟩,⟨at_,level,held,L⟩⟩,a',n,c'⟩) rfl ?q1 ?q2 ?q3 ?q4 ?q5 ?q6 ?_)
   case q1=>rfl
   case q2 =>
    intro q u hq
    have e1:lcell ⟨⟨key,⟨k,l,d,b,cc,o⟩,⟨at_,level,held,L⟩⟩,a',n,c'⟩=[.string KY,.int .i64 k,.int .i64 l,.int .i64 d,.int .i64 b,.int .i64 cc,.bool o,.int .i64 at_,.int .i64 level,.int .i64 held,.slice a' n c']:=by
     unfold lcell;dsimp only;rw[HKYE.out]
    rw[e1] at hq
    exact new_cells _ _ hq
   case q3=>exact lcell_one _
   case q4=>simp only[maxLen];omega
   case q5=>omega
   case q6=>simp;omega
   intro v' w4 hown4 hgrow hnil
   have HR4:=Go.Lib.hid hown4
   have HG4:=Go.Lib.hid hgrow
   have HR3:=Go.Lib.hid hrow3
   clear hown4 hgrow hrow3 hnil
   go_wp2_with fail
   go_roundw
   case rel =>
    obtain⟨h1,h2,h3,h4⟩:=H.out
    have hJl:Js.length=j:=by have:=congrArg List.length h1;rw[List.length_map,List.length_map,List.length_take,← HN.out] at this;omega
    refine⟨j+1,Js ++ [⟨⟨key,⟨k,l,d,b,cc,o⟩,⟨at_,level,held,L⟩⟩,a',n,c'⟩],by go_num,by omega,⟨?_,?_,fun i hi=>?_,?_⟩⟩
    ·rw[List.map_append,h1,HTK.out,List.map_append];rfl
    ·rw[lcells_append,lcells_one];exact HR4.out
    ·rcases List.mem_append.1 hi with hi|hi
     ·exact own_grow (own_bl (own_bl (h3 i hi) HB2.out) HB3.out) HR3.out HG4.out
     ·have:=List.mem_singleton.1 hi
      subst this
      exact own_base (own_grow HOW.out HR3.out HG4.out) (by omega)
    ·exact(bl_alloc (bl_then (bl_then h4 HB2.out) HB3.out) _).grown HG4.out (by simp;omega) (fun q hq=>(World.ownsRow.lt HR3.out q hq).1)
   case measure=>simp[intOf];omega
  ·have hje:j=N:=by omega
   subst hje
   go_wp2_with fail
   go_ret
   obtain⟨h1,h2,h3,h4⟩:=H.out
   have hJl:Js.length=j:=by have:=congrArg List.length h1;rw[List.length_map,List.length_map,List.length_take,← HN.out] at this;omega
   have h5:=HB.out.size
   refine⟨_,Js,rfl,⟨by rw[hJl];exact row_base h2 h5,fun i hi=>?_⟩,?_,fun i hi=>own_base (h3 i hi) h5,bl_then HB.out h4⟩
   ·obtain⟨a2,c2,e2,hl2⟩:=own_log (h3 i hi)
    injection e2 with e3 e4 e5
    subst e3 e5
    exact hl2
   ·rw[h1,List.take_of_length_le (by rw[← HN.out];exact Nat.le_refl _)]
end Go.Proofs.YtmhikkbdhboodaaGreat

namespace Go.Proofs.YtmhikkbdhboodaaGreat
open Go.RowKit Go.Maps
set_option linter.unusedVariables false
set_option linter.unusedSimpArgs false

variable {w w':World} {p p':CsP} {room nx nx':Nat} {m m':List (Int × Value)} {I A B:List CI}
theorem crow_only {F:Nat→Prop} {base:Nat} {v:Value} {Js:List LC} (h:CRow w base v Js) (ho:∀ i ∈ Js,OwnLog w base (.slice i.a i.n i.c) i.n i.x.st.log) (hO:Only F w w') (hF:∀ q,F q→q<base):CRow w' base v Js:=by
 refine⟨row_frame h.1 fun k hk=>hO.block k (World.ownsRow.lt h.1 k hk).2 (fun hq=>?_),fun i hi=>log_only (h.2 i hi) hO fun ad e hn hq=>?_⟩
 ·have:=(World.ownsRow.lt h.1 k hk).1
  have:=hF k hq
  omega
 ·have h2:(Value.slice i.a i.n i.c).ownBlock=some ad.block:=by rw[e];rfl
  have:=(World.ownsRow.lt (ho i hi) _ h2).1
  have:=hF _ hq
  omega
theorem kept_snoc (M:List Cl) (x:Cl) (now:Int):cKept (M ++ [x]) now=if cFresh now x=true then cKept M now else cKept M now ++ [x]:=by
 unfold cKept
 rw[List.filter_append]
 cases h:cFresh now x <;> simp[h]
theorem kept_le (M:List Cl) (now:Int):(cKept M now).length≤M.length:=List.length_filter_le _ _
theorem cells_split {M1 M2:List Cl} {x:Cl} (h:CellsAt w p room nx (M1 ++ x :: M2)):∃ A i B m,CsI w p room nx m (A ++ i :: B)∧A.map (·.x)=M1∧i.x=x∧B.map (·.x)=M2:=by
 obtain⟨I,⟨m,h⟩,e⟩:=h
 obtain⟨A,C,rfl,rfl,hC⟩:=List.map_eq_append_iff.1 e
 obtain⟨i,B,rfl,hi,rfl⟩:=List.map_eq_cons_iff.1 hC
 exact⟨A,i,B,m,h,rfl,hi,rfl⟩
theorem csweep_any {L:List Cl} (now:Int) (h:CellsAt w p room nx L) (hnx:nx<4611686018427387904) :
  Calls Tryz.prog 37 #[.pointer (some ⟨p.b,0,none⟩),.int .i64 now] w fun e w'=>e=.returned (.int .i64 (cSweep L now).2)∧CsStep w p room nx (cSweep L now).1 w':=by
 have hall:=csall_any h hnx
 have hlt:=cells_lt h
 have hrm:=cells_room h
 obtain⟨N,hN⟩:∃ N,N=L.length:=⟨_,rfl⟩
 rw[← hN] at hrm
 have HC:=Go.Lib.hid h
 have HN:=Go.Lib.hid hN
 have HLT:=Go.Lib.hid hlt
 clear h hN hlt
 have HALL:=Go.Lib.hid hall
 clear hall
 go_enter Tryz.func37,Tryz.ntmps37
 go_wp2_with fail
 refine HALL.out.mono ?_
 rintro e wa ⟨rv,Js,rfl,hrow,hJL,hown,hb⟩
 have hJl:Js.length=N:=by rw[HN.out,← hJL,List.length_map]
 obtain⟨ra,rcap,rfl⟩:=cs_form hrow.1
 rw[hJl]
 have HB:=Go.Lib.hid hb
 have HROW:=Go.Lib.hid hrow
 have HOWN:=Go.Lib.hid hown
 have HJL:=Go.Lib.hid hJL
 have HJl:=Go.Lib.hid hJl
 clear hb hrow hown hJL hJl
 go_wp2_with fail
 go_loopw [5,11] (fun s5 s11 wr=>∃ (j:Nat) (pj:CsP),s11=.int .i64 j∧j≤N∧s5=.int .i64 ((j:Int) - ((cKept (L.take j) now).length:Int))∧Hid (pj.b=p.b∧CellsAt wr pj room nx (cKept (L.take j) now ++ L.drop j)∧Only (CF p) wa wr∧∀ q,CF pj q→CF p q∨wa.heap.size≤q)) (fun s5 s11 _=>N - (intOf s11).toNat)
 case atStart=>exact⟨0,p,rfl,Nat.zero_le _,rfl,⟨rfl,cells_bl HC.out HB.out,Only.of_below (bl_refl _),fun q hq => .inl hq⟩⟩
 case round =>
  obtain⟨j,⟨pb,tj,mj⟩,rfl,hj,rfl,H⟩:=hrel
  obtain⟨hpb,hcs,hO,hF⟩:=H.out
  dsimp only at hpb
  subst hpb
  clear H
  by_cases hjN:j<N
  ·obtain ⟨i,hij⟩:∃ i,Js[j]?=some i:=⟨Js[j]'(by rw[HJl.out];exact hjN),List.getElem?_eq_getElem _⟩
   have hLx:L[j]?=some i.x:=by rw[← HJL.out,List.getElem?_map,hij];rfl
   obtain⟨hsp,htk⟩:=split_nth hLx
   have hdr:L.drop j=i.x :: L.drop (j+1):=by
    obtain⟨hl,e⟩:=List.getElem?_eq_some_iff.1 hLx
    rw[← e]
    exact List.drop_eq_getElem_cons hl
   have hrowr:=crow_only HROW.out HOWN.out hO HLT.out
   obtain⟨g,cap,e,rc0,rc1,rc2,rc3,rc4,rc5,rc6,rc7,rc8,rc9,rc10⟩:=crow_at hrowr hij
   rw[HJl.out] at e
   injection e with e1 e2 e3
   subst e1 e3
   have hlog:=hrowr.2 i (List.mem_of_getElem? hij)
   rw[hdr] at hcs
   have k0:(0:Int)≤(j:Int):=by omega
   have k1:(j:Int)<(N:Int):=by omega
   have hkl:=kept_le (L.take j) now
   rw[List.length_take] at hkl
   have hsh:i.x.key.length≤maxLen:=by
    obtain⟨A,i',B,m',hI,-,hix,-⟩:=cells_split hcs
    rw[← hix]
    exact hI.short i' (by simp)
   obtain⟨KL,hKL⟩:∃ z,z=(cKept (L.take j) now).length:=⟨_,rfl⟩
   rw[← hKL] at hkl
   rw[← hKL]
   have hfr:=fun W hW=>cfresh_any i.x i.a i.n i.c now W hW
   obtain⟨R,hR⟩:∃ R,R=cFresh now i.x:=⟨_,rfl⟩
   rw[← hR] at hfr
   have HKL:=Go.Lib.hid hKL
   have HRE:=Go.Lib.hid hR
   have HTK:=Go.Lib.hid htk
   have HSH:=Go.Lib.hid hsh
   have HLX:=Go.Lib.hid hLx
   have HOr:=Go.Lib.hid hO
   have HFr:=Go.Lib.hid hF
   obtain⟨⟨key,⟨k,l,d,b,cc,o⟩,⟨at_,level,held,LG⟩⟩,a,n,c⟩:=i
   unfold Cl.v at hfr
   dsimp only at *
   generalize hKY:ktx key=KY at *
   have HKY:=Go.Lib.hid hKY
   have HCS:=Go.Lib.hid hcs
   have HLOG:=Go.Lib.hid hlog
   clear hKL hR htk hdr hsp hLx hij hrowr hsh hO hF hKY hcs hlog
   have HFR:=Go.Lib.hid hfr
   clear hfr
   go_wp2_with fail
   refine(HFR.out _ (log_bl HLOG.out (bl_alloc (bl_refl _) _))).mono ?_
   rintro e w5 ⟨rfl,hb5⟩
   have xb0:=bl_cell (v:=.string KY) hb5 (show World.cell? _ ⟨wr.heap.size,0,none⟩=_ by go_simp)
   have HB5:=Go.Lib.hid (bl_then (bl_alloc (bl_refl wr) _) hb5)
   clear hb5 rc0 rc1 rc2 rc3 rc4 rc5 rc6 rc7 rc8 rc9 rc10
   cases R with
   | false =>
    go_wp2_with fail
    go_roundw
    case rel =>
     refine⟨j+1,⟨p.b,tj,mj⟩,by go_num,by omega,?_,⟨rfl,?_,HOr.out.trans (Only.of_below HB5.out),HFr.out⟩⟩
     ·rw[HTK.out,kept_snoc,if_neg (by rw[← HRE.out];simp),List.length_append,← HKL.out]
      congr 1
      simp
      omega
     ·rw[HTK.out,kept_snoc,if_neg (by rw[← HRE.out];simp),List.append_assoc]
      exact cells_bl HCS.out HB5.out
    case measure=>simp[intOf];omega
   | true =>
    obtain⟨A,i',B,m',hI,hA,hix,hBm⟩:=cells_split (cells_bl HCS.out HB5.out)
    have hsz:KY.size≤maxLen:=by rw[← HKY.out,ktx_size];exact HSH.out
    have hdrp:=cdrop_some KY hI hsz (by rw[hix,← HKY.out,ktx_list]) hnx
    have HA:=Go.Lib.hid hA
    have HBm:=Go.Lib.hid hBm
    clear hA hBm hix hI hsz
    have HDRP:=Go.Lib.hid hdrp
    clear hdrp
    have hw:=IntWalk.i64_in ((j:Int) - (KL:Int)+1) (by omega)
    go_wp2_with fail
    refine HDRP.out.mono ?_
    rintro e w6 ⟨rfl,hpost⟩
    have HP:=Go.Lib.hid hpost
    clear hpost
    go_wp2_with fail
    go_roundw
    case rel =>
     obtain⟨p',hp,hc,hO6,hF6⟩:=HP.out
     have hO5:Only (CF p) wa w5:=HOr.out.trans (Only.of_below HB5.out)
     refine⟨j+1,p',by go_num,by omega,?_,⟨hp,?_,only_grow hO5 hO6 HFr.out,fun q hq=>(hF6 q hq).elim (HFr.out q) (fun h => .inr (Nat.le_trans hO5.size h))⟩⟩
     ·rw[HTK.out,kept_snoc,if_pos (by rw[← HRE.out]),← HKL.out]
      congr 1
      simp
      omega
     ·rw[HTK.out,kept_snoc,if_pos (by rw[← HRE.out])]
      exact⟨A ++ B,⟨_,hc⟩,by rw[List.map_append,HA.out,HBm.out]⟩
    case measure=>simp[intOf];omega
  ·have hje:j=N:=by omega
   subst hje
   go_wp2_with fail
   go_ret
   have htl:L.take j=L:=List.take_of_length_le (by rw[← HN.out];exact Nat.le_refl _)
   rw[htl] at hcs ⊢
   rw[List.drop_eq_nil_of_le (by rw[← HN.out];exact Nat.le_refl _),List.append_nil] at hcs
   refine⟨by unfold cSweep;rw[← HN.out];rfl,⟨p.b,tj,mj⟩,nx,rfl,Nat.le_succ _,hcs,(Only.of_below HB.out).trans hO,fun q hq=>(hF q hq).imp id (fun h=>Nat.le_trans HB.out.size h)⟩
end Go.Proofs.YtmhikkbdhboodaaGreat

namespace Go.Proofs.YtmhikkbdhboodaaGreat
open Go.RowKit
set_option linter.unusedVariables false
set_option linter.unusedSimpArgs false

theorem rclamp_any (t:Int) (w:World):Calls Tryz.prog 127 #[.int .i64 t] w fun e w'=>e=.returned (.int .i64 (clampT t))∧w=w':=by
 generalize hR:clampT t=R at *
 have HR:=Go.Lib.hid hR
 clear hR
 go_enter Tryz.func127,Tryz.ntmps127
 go_wp2
 all_goals
  go_ret
  refine⟨congrArg (fun x=>Ending.returned (.int .i64 x)) ?_,rfl⟩
  rw[← HR.out]
  unfold clampT
  (repeat' split) <;> omega

theorem rclamp_bl (t:Int) (w:World):Calls Tryz.prog 127 #[.int .i64 t] w fun e w'=>e=.returned (.int .i64 (clampT t))∧Below w.heap.size w w' :=
 (rclamp_any t w).mono fun e w' h=>⟨h.1,by rw[← h.2];exact bl_refl _⟩

theorem rlasts4_any (p:Pol) (n:Int) (w:World) (hl:1≤p.limit) (hL:p.limit≤1048576) (hn:n≤4611686018427387904) :
  Calls Tryz.prog 88 #[p.v,.int .i64 n] w fun e w'=>e=.returned (.int .i64 (ceilD n p.limit))∧Below w.heap.size w w':=by
 obtain⟨k,l,d,b,cc,o⟩:=p
 unfold Pol.v ceilD
 dsimp only at *
 by_cases h:n≤0
 ·rw[if_pos h]
  go_enter Tryz.func88,Tryz.ntmps88
  go_wp2_with fail
  go_ret
  exact⟨rfl,k1⟩
 ·rw[if_neg h]
  have h1:IntKind.i64.wrap (n+l)=n+l:=IntWalk.i64_in _ (by omega)
  have h2:IntKind.i64.wrap (n+l - 1)=n+l - 1:=IntWalk.i64_in _ (by omega)
  have h0:0≤n+l - 1:=by omega
  go_enter Tryz.func88,Tryz.ntmps88
  go_wp2_with fail
  go_ret
  exact⟨rfl,k1⟩

theorem ceil_up {n d:Int} (hd:1≤d) (h:0<n):((n / d)*d<n→ceilD n d=n / d+1)∧(¬ (n / d)*d<n→ceilD n d=n / d):=by
 unfold ceilD
 rw[if_neg (by omega)]
 have h1:=Int.emod_add_mul_ediv n d
 have h2:=Int.emod_nonneg n (show d≠0 by omega)
 have h3:=Int.emod_lt_of_pos n (show 0<d by omega)
 rw[Int.mul_comm d] at h1
 have h4:=Int.emod_add_mul_ediv (n+d - 1) d
 have h5:=Int.emod_nonneg (n+d - 1) (show d≠0 by omega)
 have h6:=Int.emod_lt_of_pos (n+d - 1) (show 0<d by omega)
 rw[Int.mul_comm d] at h4
 constructor
 ·intro h7
  refine Int.le_antisymm ?_ ?_
  ·have:(n+d - 1) / d*d<(n / d+2)*d:=by rw[Int.add_mul];omega
   have:=Int.lt_of_mul_lt_mul_right this (by omega)
   omega
  ·have:(n / d)*d<((n+d - 1) / d)*d:=by omega
   have:=Int.lt_of_mul_lt_mul_right this (by omega)
   omega
 ·intro h7
  refine Int.le_antisymm ?_ ?_
  ·have:(n+d - 1) / d*d<(n / d+1)*d:=by rw[Int.add_mul];omega
   have:=Int.lt_of_mul_lt_mul_right this (by omega)
   omega
  ·have:(n / d - 1)*d<((n+d - 1) / d)*d:=by rw[Int.sub_mul];omega
   have:=Int.lt_of_mul_lt_mul_right this (by omega)
   omega

theorem rlasts5_any (p:Pol) (n:Int) (w:World) (hl:1≤p.limit) (hL:p.limit≤1048576) (hn:n≤4611686018427387904) :
  Calls Tryz.prog 89 #[p.v,.int .i64 n] w fun e w'=>e=.returned (.int .i64 (ceilD n p.limit))∧Below w.heap.size w w':=by
 obtain⟨k,l,d,b,cc,o⟩:=p
 unfold Pol.v
 dsimp only at *
 by_cases h:n≤0
 ·rw[show ceilD n l=0 from if_pos h]
  go_enter Tryz.func89,Tryz.ntmps89
  go_wp2_with fail
  go_ret
  exact⟨rfl,k1⟩
 ·obtain ⟨e1,e2⟩:=ceil_up hl (show 0<n by omega)
  have hq:n / l*l≤n:=Int.ediv_mul_le n (show l≠0 by omega)
  have hq0:0≤n / l:=Int.ediv_nonneg (by omega) (by omega)
  have hq1:0≤n / l*l:=Int.mul_nonneg hq0 (by omega)
  have hq2:n / l≤n:=Int.ediv_le_self l (by omega)
  have hw1:IntKind.i64.wrap (n / l*l)=n / l*l:=IntWalk.i64_in _ (by omega)
  have hw2:IntKind.i64.wrap (n / l+1)=n / l+1:=IntWalk.i64_in _ (by omega)
  have h0:0≤n:=by omega
  by_cases hc:n / l*l<n
  ·rw[e1 hc]
   clear e1 e2 hq hq0 hq1 hq2
   go_enter Tryz.func89,Tryz.ntmps89
   go_wp2_with fail
   go_ret
   exact⟨rfl,k1⟩
  ·rw[e2 hc]
   clear e1 e2 hq hq0 hq1 hq2
   go_enter Tryz.func89,Tryz.ntmps89
   go_wp2_with fail
   go_ret
   exact⟨rfl,k1⟩

theorem rbegin_any (p:Pol) (t:Int) (w:World) (h1:1≤p.period) (h2:p.period≤1099511627776) (h3:0≤t) (h4:t≤9007199254740992) :
  Calls Tryz.prog 93 #[p.v,.int .i64 t] w fun e w'=>e=.returned (.int .i64 (t - t % p.period))∧Below w.heap.size w w':=by
 obtain⟨k,l,d,b,cc,o⟩:=p
 unfold Pol.v
 dsimp only at *
 have h5:=Int.emod_nonneg t (show d≠0 by omega)
 have h6:=Int.emod_lt_of_pos t (show 0<d by omega)
 have hw:IntKind.i64.wrap (t - t % d)=t - t % d:=IntWalk.i64_in _ (by omega)
 go_enter Tryz.func93,Tryz.ntmps93
 go_wp2_with fail
 go_ret
 exact⟨rfl,k1⟩
end Go.Proofs.YtmhikkbdhboodaaGreat

namespace Go.Proofs.YtmhikkbdhboodaaGreat
set_option linter.unusedVariables false
set_option linter.unusedSimpArgs false

theorem up_le {a b:Int} (h:b≤a):up a b=a:=by unfold up;rw[if_neg (by omega)]
theorem up_lt {a b:Int} (h:a<b):up a b=b:=by unfold up;rw[if_pos h]
theorem mulOk_iff {a b:Int}:mulOk a b=true↔a*b≤9223372036854775807:=by unfold mulOk;simp
theorem mulN_ok {a b:Int} (h:mulOk a b=true):mulN a b=a*b:=by unfold mulN;rw[if_pos h]

/-! ### bucket -/
theorem advB_stay {p:Pol} {s:St} {now:Int} (h:rightB p s) (ht:clampT now≤s.at_):advB p s now=s:=by
 unfold advB
 rw[if_pos h,up_le ht]
 obtain⟨hok,r1,r2,r3,r4,r5,r6,r7⟩:=h
 obtain⟨at_,level,held,L⟩:=s
 dsimp only at *
 subst r7
 have:dn (p.limit*(at_ - at_)) ((p.burst - held)*p.period - level)=0:=by
  rw[Int.sub_self,Int.mul_zero];unfold dn;split <;> omega
 rw[this,Int.add_zero]
theorem advB_less {p:Pol} {s:St} {now:Int} (h:rightB p s) (ht:s.at_<clampT now) (hm:mulOk (clampT now - s.at_) p.limit=true) (hn:mulN (clampT now - s.at_) p.limit≤(p.burst - s.held)*p.period - s.level) :
  advB p s now=⟨clampT now,s.level+mulN (clampT now - s.at_) p.limit,s.held,[]⟩:=by
 unfold advB
 rw[if_pos h,up_lt ht]
 rw[mulN_ok hm] at hn ⊢
 rw[Int.mul_comm p.limit]
 have:dn ((clampT now - s.at_)*p.limit) ((p.burst - s.held)*p.period - s.level)=(clampT now - s.at_)*p.limit:=by unfold dn;split <;> omega
 rw[this]
theorem advB_most {p:Pol} {s:St} {now:Int} (h:rightB p s) (ht:s.at_<clampT now) (hm:mulOk (clampT now - s.at_) p.limit=false∨(mulOk (clampT now - s.at_) p.limit=true∧(p.burst - s.held)*p.period - s.level<mulN (clampT now - s.at_) p.limit)) :
  advB p s now=⟨clampT now,(p.burst - s.held)*p.period,s.held,[]⟩:=by
 unfold advB
 rw[if_pos h,up_lt ht]
 rw[Int.mul_comm p.limit]
 obtain⟨⟨q0,q1,q2,q3,q4,q5,q6,q7⟩,r1,r2,r3,r4,r5,r6,r7⟩:=h
 have hM:(p.burst - s.held)*p.period≤1152921504606846976:=prod_le (by omega) (by omega) (by omega)
 have:dn ((clampT now - s.at_)*p.limit) ((p.burst - s.held)*p.period - s.level)=(p.burst - s.held)*p.period - s.level:=by
  rcases hm with hm|⟨hm,hn⟩
  ·have h1:¬ (clampT now - s.at_)*p.limit≤9223372036854775807:=fun z=>by rw[mulOk_iff.2 z] at hm;cases hm
   unfold dn;split <;> omega
  ·rw[mulN_ok hm] at hn
   unfold dn;split <;> omega
 rw[this]
 congr 1
 omega
/-- The reference's way to the same number of tokens. -/
theorem room_mod {n d:Int} (hd:1≤d) (hn:0≤n):(n - n % d) / d=n / d:=by
 have h1:=Int.emod_add_mul_ediv n d
 rw[show n - n % d=d*(n / d) by omega]
 exact Int.mul_ediv_cancel_left _ (by omega)

/-! ### what is done, way by way -/
theorem le_div {c n d:Int} (hd:1≤d):c≤n / d↔c*d≤n:=Int.le_ediv_iff_mul_le (by omega)
theorem roomB_le {p:Pol} {s:St} {now c:Int} (h:rightB p s):c≤roomB p s now↔c*p.period≤(advB p s now).level:=by
 unfold roomB
 rw[if_pos h]
 exact le_div h.1.2.2.2.1
theorem roomB_top {p:Pol} {s:St} {now:Int} (h:rightB p s):roomB p s now≤p.burst:=by
 have h1:=advB_level p s now h
 unfold roomB
 rw[if_pos h]
 obtain⟨⟨q0,q1,q2,q3,q4,q5,q6,q7⟩,r1,r2,r3,r4,r5,r6,r7⟩:=h
 have h2:(p.burst - s.held)*p.period≤p.burst*p.period:=Int.mul_le_mul_of_nonneg_right (by omega) (by omega)
 have h3:=Int.ediv_le_ediv (c:=p.period) (by omega) (Int.le_trans h1.2.2 h2)
 rw[Int.mul_ediv_cancel _ (by omega)] at h3
 exact h3
theorem doB_ref {p:Pol} {s:St} {k now c:Int} (h:rightB p s) :
  (c<1∨k<1∨4<k→doB p s ⟨k,now,c⟩=(s,false)) ∧
  (1≤k→k≤2→roomB p s now<c→doB p s ⟨k,now,c⟩=(s,false)) ∧
  (3≤k→k≤4→s.held<c→doB p s ⟨k,now,c⟩=(s,false)) ∧
  (1≤c→c≤roomB p s now→doB p s ⟨1,now,c⟩=({ advB p s now with level:=(advB p s now).level - c*p.period },true)) ∧
  (1≤c→c≤roomB p s now→doB p s ⟨2,now,c⟩=({ advB p s now with level:=(advB p s now).level - c*p.period,held:=(advB p s now).held+c },true)) ∧
  (1≤c→c≤s.held→doB p s ⟨3,now,c⟩=({ advB p s now with level:=(advB p s now).level+c*p.period,held:=(advB p s now).held - c },true)) ∧
  (1≤c→c≤s.held→doB p s ⟨4,now,c⟩=({ advB p s now with held:=(advB p s now).held - c },true)):=by
 have hrm:=fun c=>roomB_le (now:=now) (c:=c) h
 have htop:=roomB_top (now:=now) h
 have hhd:=advB_held p s now h
 have hb:s.held≤p.burst:=h.2.2.2.2.1
 generalize hr:roomB p s now=r at *
 unfold doB
 simp only[if_pos h]
 refine⟨?_,?_,?_,?_,?_,?_,?_⟩
 ·rintro (h1|h1|h1)
  ·rw[if_pos (.inl h1)]
  ·by_cases h2:c<1∨p.burst<c∨(actB p (advB p s now) ⟨k,now,c⟩).2=false
   ·rw[if_pos h2]
   ·exfalso;apply h2;right;right
    unfold actB;dsimp only
    rw[if_neg (by omega),if_neg (by omega),if_neg (by omega),if_neg (by omega)]
  ·rw[if_pos]
   right;right
   unfold actB;dsimp only
   rw[if_neg (by omega),if_neg (by omega),if_neg (by omega),if_neg (by omega)]
 ·intro h1 h2 h3
  have h4:¬ c*p.period≤(advB p s now).level:=fun z=>by have:=(hrm c).2 z;omega
  rw[if_pos]
  right;right
  unfold actB;dsimp only
  have hk:k=1∨k=2:=by omega
  rcases hk with rfl|rfl
  ·rw[if_pos rfl];exact decide_eq_false (by omega)
  ·rw[if_neg (by omega),if_pos rfl];exact decide_eq_false (by omega)
 ·intro h1 h2 h3
  rw[if_pos]
  right;right
  unfold actB;dsimp only
  have hk:k=3∨k=4:=by omega
  rcases hk with rfl|rfl
  ·rw[if_neg (by omega),if_neg (by omega),if_pos rfl];exact decide_eq_false (by omega)
  ·rw[if_neg (by omega),if_neg (by omega),if_neg (by omega),if_pos rfl];exact decide_eq_false (by omega)
 ·intro h1 h2
  have h4:=(hrm c).1 h2
  have e:actB p (advB p s now) ⟨1,now,c⟩=({ advB p s now with level:=(advB p s now).level - c*p.period },true):=by
   unfold actB;dsimp only;rw[if_pos rfl];congr 1;exact decide_eq_true (by omega)
  rw[e,if_neg (by rintro(z|z|z) <;> first|omega|cases z)]
 ·intro h1 h2
  have h4:=(hrm c).1 h2
  have e:actB p (advB p s now) ⟨2,now,c⟩=({ advB p s now with level:=(advB p s now).level - c*p.period,held:=(advB p s now).held+c },true):=by
   unfold actB;dsimp only;rw[if_neg (by omega),if_pos rfl];congr 1;exact decide_eq_true (by omega)
  rw[e,if_neg (by rintro(z|z|z) <;> first|omega|cases z)]
 ·intro h1 h2
  have e:actB p (advB p s now) ⟨3,now,c⟩=({ advB p s now with level:=(advB p s now).level+c*p.period,held:=(advB p s now).held - c },true):=by
   unfold actB;dsimp only;rw[if_neg (by omega),if_neg (by omega),if_pos rfl];congr 1;exact decide_eq_true (by omega)
  rw[e,if_neg (by rintro(z|z|z) <;> first|omega|cases z)]
 ·intro h1 h2
  have e:actB p (advB p s now) ⟨4,now,c⟩=({ advB p s now with held:=(advB p s now).held - c },true):=by
   unfold actB;dsimp only;rw[if_neg (by omega),if_neg (by omega),if_neg (by omega),if_pos rfl];congr 1;exact decide_eq_true (by omega)
  rw[e,if_neg (by rintro(z|z|z) <;> first|omega|cases z)]

/-! ### gcra -/
theorem advG_stay {p:Pol} {s:St} {now:Int} (h:rightG p s) (ht:clampT now≤s.at_):advG p s now=s:=by
 unfold advG
 rw[if_pos h,up_le ht]
 obtain⟨hok,r1,r2,r3,r4,r5,r6,r7⟩:=h
 obtain⟨at_,level,held,L⟩:=s
 dsimp only at *
 subst r7
 have:up (level - (at_ - at_)*p.limit) (held*p.period)=level:=by
  rw[Int.sub_self,Int.zero_mul,Int.sub_zero];exact up_le r5
 rw[this]
theorem advG_less {p:Pol} {s:St} {now:Int} (h:rightG p s) (ht:s.at_<clampT now) (hm:mulOk (clampT now - s.at_) p.limit=true) (hn:mulN (clampT now - s.at_) p.limit≤s.level - s.held*p.period) :
  advG p s now=⟨clampT now,s.level - mulN (clampT now - s.at_) p.limit,s.held,[]⟩:=by
 unfold advG
 rw[if_pos h,up_lt ht]
 rw[mulN_ok hm] at hn ⊢
 rw[up_le (by omega)]
theorem advG_most {p:Pol} {s:St} {now:Int} (h:rightG p s) (ht:s.at_<clampT now) (hm:mulOk (clampT now - s.at_) p.limit=false∨(mulOk (clampT now - s.at_) p.limit=true∧s.level - s.held*p.period<mulN (clampT now - s.at_) p.limit)) :
  advG p s now=⟨clampT now,s.level - (s.level - s.held*p.period),s.held,[]⟩:=by
 unfold advG
 rw[if_pos h,up_lt ht]
 obtain⟨⟨q0,q1,q2,q3,q4,q5,q6,q7⟩,r1,r2,r3,r4,r5,r6,r7⟩:=h
 have hM:p.burst*p.period≤1152921504606846976:=prod_le (by omega) (by omega) (by omega)
 have h0:0≤s.held*p.period:=Int.mul_nonneg (by omega) (by omega)
 have:s.level - (clampT now - s.at_)*p.limit<s.held*p.period:=by
  rcases hm with hm|⟨hm,hn⟩
  ·have h1:¬ (clampT now - s.at_)*p.limit≤9223372036854775807:=fun z=>by rw[mulOk_iff.2 z] at hm;cases hm
   omega
  ·rw[mulN_ok hm] at hn
   omega
 rw[up_lt this]
 congr 1
 omega
theorem roomG_le {p:Pol} {s:St} {now c:Int} (h:rightG p s):c≤roomG p s now↔(advG p s now).level+c*p.period≤p.burst*p.period:=by
 unfold roomG
 rw[if_pos h,le_div h.1.2.2.2.2.2.2.1]
 omega
theorem doG_ref {p:Pol} {s:St} {k now c:Int} (h:rightG p s) (hH:(advG p s now).held=s.held) (hL:0≤(advG p s now).level∧(advG p s now).level≤p.burst*p.period) :
  (c<1∨k<1∨4<k→doG p s ⟨k,now,c⟩=(s,false)) ∧
  (1≤k→k≤2→roomG p s now<c→doG p s ⟨k,now,c⟩=(s,false)) ∧
  (3≤k→k≤4→s.held<c→doG p s ⟨k,now,c⟩=(s,false)) ∧
  (1≤c→c≤roomG p s now→doG p s ⟨1,now,c⟩=({ advG p s now with level:=(advG p s now).level+c*p.period },true)) ∧
  (1≤c→c≤roomG p s now→doG p s ⟨2,now,c⟩=({ advG p s now with level:=(advG p s now).level+c*p.period,held:=(advG p s now).held+c },true)) ∧
  (1≤c→c≤s.held→doG p s ⟨3,now,c⟩=({ advG p s now with level:=(advG p s now).level - c*p.period,held:=(advG p s now).held - c },true)) ∧
  (1≤c→c≤s.held→doG p s ⟨4,now,c⟩=({ advG p s now with held:=(advG p s now).held - c },true)):=by
 have hrm:=fun c=>roomG_le (now:=now) (c:=c) h
 have hb:s.held≤p.burst:=h.2.2.2.2.1
 have hh:0≤s.held:=h.2.2.2.1
 have hd:1≤p.period:=h.1.2.2.2.2.2.2.1
 have hcp:∀ c:Int,p.burst<c→p.burst*p.period<c*p.period:=fun c z=>Int.mul_lt_mul_of_pos_right z (by omega)
 have hc0:∀ c:Int,1≤c→0≤c*p.period:=fun c z=>Int.mul_nonneg (by omega) (by omega)
 generalize hr:roomG p s now=r at *
 unfold doG
 simp only[if_pos h]
 refine⟨?_,?_,?_,?_,?_,?_,?_⟩
 ·rintro(h1|h1|h1)
  ·rw[if_pos (.inl h1)]
  ·rw[if_pos (.inr (.inr (.inl h1)))]
  ·rw[if_pos (.inr (.inr (.inr (.inl h1))))]
 ·intro h1 h2 h3
  have h4:¬ (advG p s now).level+c*p.period≤p.burst*p.period:=fun z=>by have:=(hrm c).2 z;omega
  rw[if_pos]
  right;right;right;right;right
  unfold actG;dsimp only
  have hk:k=1∨k=2:=by omega
  rcases hk with rfl|rfl
  ·rw[if_pos rfl];dsimp only;omega
  ·rw[if_neg (by omega),if_pos rfl];dsimp only;omega
 ·intro h1 h2 h3
  rw[if_pos]
  right;right;right;right;left
  unfold actG;dsimp only
  have hk:k=3∨k=4:=by omega
  rcases hk with rfl|rfl
  ·rw[if_neg (by omega),if_neg (by omega),if_pos rfl];dsimp only;omega
  ·rw[if_neg (by omega),if_neg (by omega),if_neg (by omega)];dsimp only;omega
 ·intro h1 h2
  have h4:=(hrm c).1 h2
  have e:actG p (advG p s now) ⟨1,now,c⟩ = { advG p s now with level:=(advG p s now).level+c*p.period }:=by unfold actG;dsimp only;rw[if_pos rfl]
  rw[e,if_neg]
  rintro(z|z|z|z|z|z) <;> (try dsimp only at z) <;> first|omega|(have:=hcp c z;omega)
 ·intro h1 h2
  have h4:=(hrm c).1 h2
  have e:actG p (advG p s now) ⟨2,now,c⟩ = { advG p s now with level:=(advG p s now).level+c*p.period,held:=(advG p s now).held+c }:=by unfold actG;dsimp only;rw[if_neg (by omega),if_pos rfl]
  rw[e,if_neg]
  rintro(z|z|z|z|z|z) <;> (try dsimp only at z) <;> first|omega|(have:=hcp c z;omega)
 ·intro h1 h2
  have:=hc0 c h1
  have e:actG p (advG p s now) ⟨3,now,c⟩ = { advG p s now with level:=(advG p s now).level - c*p.period,held:=(advG p s now).held - c }:=by unfold actG;dsimp only;rw[if_neg (by omega),if_neg (by omega),if_pos rfl]
  rw[e,if_neg]
  rintro(z|z|z|z|z|z) <;> (try dsimp only at z) <;> omega
 ·intro h1 h2
  have e:actG p (advG p s now) ⟨4,now,c⟩ = { advG p s now with held:=(advG p s now).held - c }:=by unfold actG;dsimp only;rw[if_neg (by omega),if_neg (by omega),if_neg (by omega)]
  rw[e,if_neg]
  rintro(z|z|z|z|z|z) <;> (try dsimp only at z) <;> omega

/-! ### counter -/
theorem begin_le {t p:Int} (hp:1≤p):t - t % p=t / p*p:=by
 have h1:=Int.emod_add_mul_ediv t p
 rw[Int.mul_comm p] at h1
 omega
theorem advC_old {p:Pol} {s:St} {now:Int} (h:rightC p s) (hb:up s.at_ (clampT now) - up s.at_ (clampT now) % p.period≤s.at_):advC p s now=⟨up s.at_ (clampT now),s.level,s.held,[]⟩:=by
 unfold advC
 rw[if_pos h]
 have hd:1≤p.period:=h.1.2.2.1
 have hu:s.at_≤up s.at_ (clampT now):=by unfold up;split <;> omega
 rw[begin_le hd] at hb
 generalize up s.at_ (clampT now)=T at *
 rw[if_pos]
 refine Int.le_antisymm ?_ (Int.ediv_le_ediv (by omega) hu)
 exact(le_div hd).2 hb
theorem advC_new {p:Pol} {s:St} {now:Int} (h:rightC p s) (hb:¬ up s.at_ (clampT now) - up s.at_ (clampT now) % p.period≤s.at_):advC p s now=⟨up s.at_ (clampT now),0,s.held,[]⟩:=by
 unfold advC
 rw[if_pos h]
 have hd:1≤p.period:=h.1.2.2.1
 rw[begin_le hd] at hb
 generalize up s.at_ (clampT now)=T at *
 rw[if_neg]
 intro e
 apply hb
 rw[e]
 exact Int.ediv_mul_le _ (by omega)
theorem advC_held {p:Pol} {s:St} {now:Int} (h:rightC p s):(advC p s now).held=s.held:=by unfold advC;rw[if_pos h]
theorem advC_at {p:Pol} {s:St} {now:Int} (h:rightC p s):0≤(advC p s now).at_∧(advC p s now).at_≤9007199254740992:=by
 unfold advC;rw[if_pos h];dsimp only
 have:=clampT_range now;have:=h.2.1;have:=h.2.2.1
 unfold up;split <;> omega
theorem advC_level' {p:Pol} {s:St} {now:Int} (h:rightC p s):0≤(advC p s now).level∧s.held+(advC p s now).level≤p.limit:=by
 unfold advC;rw[if_pos h];dsimp only
 obtain⟨hok,r1,r2,r3,r4,r5,r6,r7,r8⟩:=h
 split <;> omega
theorem doC_ref {p:Pol} {s:St} {k now c:Int} (h:rightC p s) :
  (c<1∨k<1∨4<k→doC p s ⟨k,now,c⟩=(s,false)) ∧
  (1≤k→k≤2→roomC p s now<c→doC p s ⟨k,now,c⟩=(s,false)) ∧
  (3≤k→k≤4→s.held<c→doC p s ⟨k,now,c⟩=(s,false)) ∧
  (1≤c→c≤roomC p s now→doC p s ⟨1,now,c⟩=({ advC p s now with level:=(advC p s now).level+c },true)) ∧
  (1≤c→c≤roomC p s now→doC p s ⟨2,now,c⟩=({ advC p s now with held:=(advC p s now).held+c },true)) ∧
  (1≤c→c≤s.held→doC p s ⟨3,now,c⟩=({ advC p s now with held:=(advC p s now).held - c },true)) ∧
  (1≤c→c≤s.held→doC p s ⟨4,now,c⟩=({ advC p s now with held:=(advC p s now).held - c,level:=(advC p s now).level+c },true)):=by
 have hh:=advC_held (now:=now) h
 have hr:roomC p s now=p.limit - s.held - (advC p s now).level:=by unfold roomC;rw[if_pos h]
 rw[hr,hh]
 clear hr
 unfold doC
 simp only[if_pos h]
 refine⟨?_,?_,?_,?_,?_,?_,?_⟩
 all_goals
  intros
  (repeat' split) <;> first|rfl|(exfalso;omega)|(simp only[true_and] at *;exfalso;omega)|(simp only[hh])
end Go.Proofs.YtmhikkbdhboodaaGreat

namespace Go.Proofs.YtmhikkbdhboodaaGreat
open Go.RowKit
set_option linter.unusedVariables false
set_option linter.unusedSimpArgs false

def Cells6 (w:World) (b:Nat) (v0 v1 v2 v3 v4 v5:Value):Prop:=w.cell? ⟨b,0,none⟩=some v0∧w.cell? ⟨b,1,none⟩=some v1∧w.cell? ⟨b,2,none⟩=some v2∧w.cell? ⟨b,3,none⟩=some v3∧w.cell? ⟨b,4,none⟩=some v4∧w.cell? ⟨b,5,none⟩=some v5
theorem results_pol {fn:Func} {x:Tmp} (h:fn.results = #[.cell x 23]) (tmps:Array Value) (w:World) {b:Nat} {v0 v1 v2 v3 v4 v5:Value} (hx:tmps.getD x undef=.pointer (some ⟨b,0,none⟩))
  (hc:Cells6 w b v0 v1 v2 v3 v4 v5) :
  (results fn tmps).run Tryz.prog w=.ok (.agg #[v0,v1,v2,v3,v4,v5]) w:=by
 obtain⟨i0,i1,i2,i3,i4,i5⟩:=hc
 have hx':tmps[x]?.getD undef=.pointer (some ⟨b,0,none⟩):=by simpa using hx
 unfold results
 simp[h,hx',go_sem,i0,i1,i2,i3,i4,i5]
theorem r4chk (p:Pol) (w:World):Calls Tryz.prog 52 #[p.v] w fun e w'=>e=.returned (.int .i64 (chkB p))∧Below w.heap.size w w':=by
 obtain⟨k,l,d,b,c,o⟩:=p
 generalize hX:chkB ⟨k,l,d,b,c,o⟩=C at *
 have HX:=Go.Lib.hid hX
 clear hX
 unfold Pol.v
 go_enter Tryz.func52,Tryz.ntmps52
 go_wp2
 all_goals
  go_ret
  have hX:=HX.out
  refine⟨congrArg (fun x=>Ending.returned (.int .i64 x)) ?_,k1⟩
  rw[← hX]
  try simp only[bne_iff_ne,ne_eq,bne_eq_false_iff_eq,beq_iff_eq,beq_eq_false_iff_ne,Bool.and_eq_true,Bool.and_eq_false_iff,decide_eq_true_eq,decide_eq_false_iff_not] at *
  first
   | (refine chk_ok ?_;unfold okB;dsimp only;omega)
   | (refine chk_no ?_;unfold okB;dsimp only;intro hh;obtain⟨q0,q1,q2,q3,q4,q5,q6,q7⟩:=hh;omega)
theorem r6chk (p:Pol) (w:World):Calls Tryz.prog 54 #[p.v] w fun e w'=>e=.returned (.int .i64 (chkL p))∧Below w.heap.size w w':=by
 obtain⟨k,l,d,b,c,o⟩:=p
 generalize hX:chkL ⟨k,l,d,b,c,o⟩=C at *
 have HX:=Go.Lib.hid hX
 clear hX
 unfold Pol.v
 go_enter Tryz.func54,Tryz.ntmps54
 go_wp2
 all_goals
  go_ret
  have hX:=HX.out
  refine⟨congrArg (fun x=>Ending.returned (.int .i64 x)) ?_,k1⟩
  rw[← hX]
  try simp only[bne_iff_ne,ne_eq,bne_eq_false_iff_eq,beq_iff_eq,beq_eq_false_iff_ne,Bool.and_eq_true,Bool.and_eq_false_iff,decide_eq_true_eq,decide_eq_false_iff_not] at *
  first
   | (refine chkL_ok ?_;unfold okL;dsimp only;omega)
   | (refine chkL_no ?_;unfold okL;dsimp only;intro hh;obtain⟨q0,q1,q2,q3,q4,q5,q6,q7⟩:=hh;omega)
theorem r7chk (p:Pol) (w:World):Calls Tryz.prog 55 #[p.v] w fun e w'=>e=.returned (.int .i64 (chkC p))∧Below w.heap.size w w':=by
 obtain⟨k,l,d,b,c,o⟩:=p
 generalize hX:chkC ⟨k,l,d,b,c,o⟩=C at *
 have HX:=Go.Lib.hid hX
 clear hX
 unfold Pol.v
 go_enter Tryz.func55,Tryz.ntmps55
 go_wp2
 all_goals
  go_ret
  have hX:=HX.out
  refine⟨congrArg (fun x=>Ending.returned (.int .i64 x)) ?_,k1⟩
  rw[← hX]
  try simp only[bne_iff_ne,ne_eq,bne_eq_false_iff_eq,beq_iff_eq,beq_eq_false_iff_ne,Bool.and_eq_true,Bool.and_eq_false_iff,decide_eq_true_eq,decide_eq_false_iff_not] at *
  first
   | (refine chkC_ok ?_;unfold okC;dsimp only;omega)
   | (refine chkC_no ?_;unfold okC;dsimp only;intro hh;obtain⟨q0,q1,q2,q3,q4,q5,q6⟩:=hh;omega)

/-- As a bucket's policy. -/
def asP (p:Pol):Pol:=⟨if p.kind=2 then 1 else 0,p.limit,p.period,p.burst,p.cap,p.opn⟩
theorem asP_ok (p:Pol):okB (asP p)↔okG p:=by
 unfold okB okG asP
 dsimp only
 by_cases h:p.kind=2
 ·rw[if_pos h];omega
 ·rw[if_neg h];omega
theorem asP_chk (p:Pol):chkB (asP p)=chkG p:=by
 unfold chkB chkG
 by_cases z:okG p
 ·rw[if_pos z,if_pos ((asP_ok p).2 z)]
 ·rw[if_neg z,if_neg (fun h=>z ((asP_ok p).1 h))]
theorem as5 (p:Pol) (w:World):Calls Tryz.prog 94 #[p.v] w fun e w'=>e=.returned (asP p).v∧Below w.heap.size w w':=by
 obtain⟨k,l,d,b,c,o⟩:=p
 unfold Pol.v asP
 dsimp only
 by_cases h:k=2
 ·rw[if_pos h]
  subst h
  go_enter Tryz.func94,Tryz.ntmps94
  repeat' (first|go_skip|go_guarded|go_step|go_upon)
  (try simp only[Exit.inBlock,Exit.then])
  refine bodyPost_ret (results_pol (b:=w.heap.size+1) rfl _ _ (by rfl) ⟨by go_simp,by go_simp,by go_simp,by go_simp,by go_simp,by go_simp⟩) rfl ⟨rfl,k2⟩
 ·rw[if_neg h]
  go_enter Tryz.func94,Tryz.ntmps94
  repeat' (first|go_skip|go_guarded|go_step|go_upon)
  (try simp only[Exit.inBlock,Exit.then])
  refine bodyPost_ret (results_pol (b:=w.heap.size+1) rfl _ _ (by rfl) ⟨by go_simp,by go_simp,by go_simp,by go_simp,by go_simp,by go_simp⟩) rfl ⟨rfl,k2⟩
theorem r5chk (p:Pol) (w:World):Calls Tryz.prog 53 #[p.v] w fun e w'=>e=.returned (.int .i64 (chkG p))∧Below w.heap.size w w':=by
 have h1:=as5 p
 have h2:=r4chk (asP p)
 rw[asP_chk] at h2
 generalize asP p=q at *
 generalize chkG p=C at *
 obtain⟨k,l,d,b,c,o⟩:=p
 obtain⟨k',l',d',b',c',o'⟩:=q
 unfold Pol.v at *
 dsimp only at *
 have H1:=Go.Lib.hid h1
 have H2:=Go.Lib.hid h2
 clear h1 h2
 go_enter Tryz.func53,Tryz.ntmps53
 go_wp2_with fail
 refine(H1.out _).mono ?_
 rintro e w1 ⟨rfl,hb⟩
 go_wp2_with fail
 refine(H2.out _).mono ?_
 rintro e w2 ⟨rfl,hb2⟩
 go_wp2_with fail
 go_ret
 exact⟨rfl,bl_then (bl_then k1 hb) hb2⟩
theorem r5right_neg (k l d b cc at_ level held:Int) (o:Bool) (L:List (Int × Int)) (a:Option Addr) (n c:Nat) (w:World) (R:Bool) (hok:okG ⟨k,l,d,b,cc,o⟩) (hr:R=true↔0≤at_∧at_≤9007199254740992∧0≤held∧held≤b∧held*d≤level∧level≤b*d∧n=0) (h0:held<0):Calls Tryz.prog 84 #[Pol.v ⟨k,l,d,b,cc,o⟩,St.v ⟨at_,level,held,L⟩ a n c] w fun e w'=>e=.returned (.bool R)∧Below w.heap.size w w':=by
 have hck:=r5chk ⟨k,l,d,b,cc,o⟩
 rw[show chkG ⟨k,l,d,b,cc,o⟩=0 from if_pos hok] at hck
 unfold St.v Pol.v at *
 dsimp only at *
 obtain⟨q0,q1,q2,q3,q4,q5,q6,q7⟩:=hok
 dsimp only at q0 q1 q2 q3 q4 q5 q6 q7
 clear q0 q1
 have hf:R=false:=by rw[Bool.eq_false_iff];intro h;have:=hr.1 h;omega
 clear hr
 subst hf
 have HCK:=Go.Lib.hid hck
 clear hck
 go_enter Tryz.func84,Tryz.ntmps84
 go_wp2_with fail
 refine(HCK.out _).mono ?_
 rintro e w1 ⟨rfl,hb⟩
 have hx:Below w.heap.size w w1:=bl_then k2 hb
 have hsz1:w.heap.size+2≤w1.heap.size:=szl hb
 obtain⟨p0,p1,p2,p3,p4,p5⟩:=b6 (w.heap.size) k l d b cc o hb
 obtain⟨s0,s1,s2,s3⟩:=b4 (w.heap.size+1) at_ level held a n c hb
 have hB:Below w.heap.size w w1:=hx
 have lb_p:=lbc p0
 have lb_s:=lbc s0
 clear hb hx
 go_wp2_with fail
 all_goals
  go_ret
  exact⟨rfl,hB⟩
theorem r5right_much (k l d b cc at_ level held:Int) (o:Bool) (L:List (Int × Int)) (a:Option Addr) (n c:Nat) (w:World) (R:Bool) (hok:okG ⟨k,l,d,b,cc,o⟩) (hr:R=true↔0≤at_∧at_≤9007199254740992∧0≤held∧held≤b∧held*d≤level∧level≤b*d∧n=0) (h0:¬ held<0) (h1:b<held):Calls Tryz.prog 84 #[Pol.v ⟨k,l,d,b,cc,o⟩,St.v ⟨at_,level,held,L⟩ a n c] w fun e w'=>e=.returned (.bool R)∧Below w.heap.size w w':=by
 have hck:=r5chk ⟨k,l,d,b,cc,o⟩
 rw[show chkG ⟨k,l,d,b,cc,o⟩=0 from if_pos hok] at hck
 unfold St.v Pol.v at *
 dsimp only at *
 obtain⟨q0,q1,q2,q3,q4,q5,q6,q7⟩:=hok
 dsimp only at q0 q1 q2 q3 q4 q5 q6 q7
 clear q0 q1
 have hf:R=false:=by rw[Bool.eq_false_iff];intro h;have:=hr.1 h;omega
 clear hr
 subst hf
 have HCK:=Go.Lib.hid hck
 clear hck
 go_enter Tryz.func84,Tryz.ntmps84
 go_wp2_with fail
 refine(HCK.out _).mono ?_
 rintro e w1 ⟨rfl,hb⟩
 have hx:Below w.heap.size w w1:=bl_then k2 hb
 have hsz1:w.heap.size+2≤w1.heap.size:=szl hb
 obtain⟨p0,p1,p2,p3,p4,p5⟩:=b6 (w.heap.size) k l d b cc o hb
 obtain⟨s0,s1,s2,s3⟩:=b4 (w.heap.size+1) at_ level held a n c hb
 have hB:Below w.heap.size w w1:=hx
 have lb_p:=lbc p0
 have lb_s:=lbc s0
 clear hb hx
 go_wp2_with fail
 all_goals
  go_ret
  exact⟨rfl,hB⟩
theorem r5right_main (k l d b cc at_ level held:Int) (o:Bool) (L:List (Int × Int)) (a:Option Addr) (n c:Nat) (w:World) (R:Bool) (hok:okG ⟨k,l,d,b,cc,o⟩) (hr:R=true↔0≤at_∧at_≤9007199254740992∧0≤held∧held≤b∧held*d≤level∧level≤b*d∧n=0) (h0:¬ held<0) (h1:¬ b<held):Calls Tryz.prog 84 #[Pol.v ⟨k,l,d,b,cc,o⟩,St.v ⟨at_,level,held,L⟩ a n c] w fun e w'=>e=.returned (.bool R)∧Below w.heap.size w w':=by
 have hck:=r5chk ⟨k,l,d,b,cc,o⟩
 rw[show chkG ⟨k,l,d,b,cc,o⟩=0 from if_pos hok] at hck
 unfold St.v Pol.v at *
 dsimp only at *
 obtain⟨q0,q1,q2,q3,q4,q5,q6,q7⟩:=hok
 dsimp only at q0 q1 q2 q3 q4 q5 q6 q7
 clear q0 q1
 have hM:b*d≤1152921504606846976:=prod_le (by omega) (by omega) (by omega)
 have hM0:0≤b*d:=Int.mul_nonneg (by omega) (by omega)
 have hw2:IntKind.i64.wrap (b*d)=b*d:=IntWalk.i64_in _ (by omega)
 have hH:held*d≤1152921504606846976:=prod_le (by omega) (by omega) (by omega)
 have hH0:0≤held*d:=Int.mul_nonneg (by omega) (by omega)
 have hw1:IntKind.i64.wrap (held*d)=held*d:=IntWalk.i64_in _ (by omega)
 clear hM hM0 hH hH0
 have HR:=Go.Lib.hid hr
 clear hr
 have HCK:=Go.Lib.hid hck
 clear hck
 go_enter Tryz.func84,Tryz.ntmps84
 go_wp2_with fail
 refine(HCK.out _).mono ?_
 rintro e w1 ⟨rfl,hb⟩
 have hx:Below w.heap.size w w1:=bl_then k2 hb
 have hsz1:w.heap.size+2≤w1.heap.size:=szl hb
 obtain⟨p0,p1,p2,p3,p4,p5⟩:=b6 (w.heap.size) k l d b cc o hb
 obtain⟨s0,s1,s2,s3⟩:=b4 (w.heap.size+1) at_ level held a n c hb
 have hB:Below w.heap.size w w1:=hx
 have lb_p:=lbc p0
 have lb_s:=lbc s0
 clear hb hx
 go_wp2_with fail
 all_goals
  go_ret
  refine⟨congrArg (fun x=>Ending.returned (.bool x)) ?_,hB⟩
  rw[Bool.eq_iff_iff,HR.out]
  try simp only[decide_eq_true_eq,Bool.false_eq_true,true_iff,false_iff,iff_true,iff_false]
  omega
theorem r5right_any (p:Pol) (s:St) (a:Option Addr) (n c:Nat) (hn:s.log.length=n) (w:World):Calls Tryz.prog 84 #[p.v,s.v a n c] w fun e w'=>e=.returned (.bool (decide (rightG p s)))∧Below w.heap.size w w':=by
 obtain⟨k,l,d,b,cc,o⟩:=p
 obtain⟨at_,level,held,L⟩:=s
 dsimp only at hn
 by_cases hok:okG ⟨k,l,d,b,cc,o⟩
 ·have hr:decide (rightG ⟨k,l,d,b,cc,o⟩ ⟨at_,level,held,L⟩)=true↔0≤at_∧at_≤9007199254740992∧0≤held∧held≤b∧held*d≤level∧level≤b*d∧n=0:=by
   rw[decide_eq_true_eq]
   unfold rightG
   simp only[eq_true hok,true_and,← List.length_eq_zero_iff,hn]
   try omega
  generalize decide (rightG ⟨k,l,d,b,cc,o⟩ ⟨at_,level,held,L⟩)=R at *
  by_cases h0:held<0
  ·exact r5right_neg k l d b cc at_ level held o L a n c w R hok hr h0
  by_cases h1:b<held
  ·exact r5right_much k l d b cc at_ level held o L a n c w R hok hr h0 h1
  exact r5right_main k l d b cc at_ level held o L a n c w R hok hr h0 h1
 ·rw[decide_eq_false (fun z=>hok z.1)]
  have hck:=r5chk ⟨k,l,d,b,cc,o⟩
  rw[show chkG ⟨k,l,d,b,cc,o⟩=2 from if_neg hok] at hck
  clear hok
  unfold St.v Pol.v at *
  dsimp only at *
  have HCK:=Go.Lib.hid hck
  clear hck
  go_enter Tryz.func84,Tryz.ntmps84
  go_wp2_with fail
  refine(HCK.out _).mono ?_
  rintro e w1 ⟨rfl,hb⟩
  have hx:Below w.heap.size w w1:=bl_then k2 hb
  have hsz1:w.heap.size+2≤w1.heap.size:=szl hb
  obtain⟨p0,p1,p2,p3,p4,p5⟩:=b6 (w.heap.size) k l d b cc o hb
  obtain⟨s0,s1,s2,s3⟩:=b4 (w.heap.size+1) at_ level held a n c hb
  have hB:Below w.heap.size w w1:=hx
  have lb_p:=lbc p0
  have lb_s:=lbc s0
  clear hb hx
  go_wp2_with fail
  go_ret
  exact⟨rfl,hB⟩
end Go.Proofs.YtmhikkbdhboodaaGreat

namespace Go.Proofs.YtmhikkbdhboodaaGreat
set_option linter.unusedVariables false
set_option linter.unusedSimpArgs false

def pw:Nat→Int
 | 0=>1
 | i+1=>65536*pw i
theorem pw_pos:∀ i,1≤pw i
 | 0=>Int.le_refl _
 | i+1=>by have:=pw_pos i;show 1≤65536*pw i;omega
theorem pw_succ (i:Nat):pw (i+1)=65536*pw i:=rfl
theorem pw_add (i j:Nat):pw (i+j)=pw i*pw j:=by
 induction j with
 | zero=>simp[pw]
 | succ j ih=>rw[← Nat.add_assoc,pw_succ,pw_succ,ih];rw[Int.mul_left_comm]
/-- What the first n digits are worth. -/
def valN (f:Nat→Int):Nat→Int
 | 0=>0
 | n+1=>valN f n+f n*pw n
def Digs (f:Nat→Int):Prop:=∀ i,0≤f i∧f i≤65535
theorem valN_bound {f:Nat→Int} (h:Digs f):∀ n,0≤valN f n∧valN f n≤pw n - 1
 | 0=>⟨Int.le_refl _,by show(0:Int)≤1 - 1;omega⟩
 | n+1=>by
  have h1:=valN_bound h n
  have h2:=h n
  have h3:=pw_pos n
  have h4:0≤f n*pw n:=Int.mul_nonneg h2.1 (by omega)
  have h5:f n*pw n≤65535*pw n:=Int.mul_le_mul_of_nonneg_right h2.2 (by omega)
  show 0≤valN f n+f n*pw n∧valN f n+f n*pw n≤65536*pw n - 1
  omega
/-- The sequence turned at one place. -/
def updN (f:Nat→Int) (p:Nat) (v:Int):Nat→Int:=fun j=>if j=p then v else f j
theorem valN_upd (f:Nat→Int) (p:Nat) (v:Int):∀ n,valN (updN f p v) n=if p<n then valN f n+(v - f p)*pw p else valN f n
 | 0=>by simp[valN]
 | n + 1=>by
  show valN (updN f p v) n+updN f p v n*pw n=_
  rw[valN_upd f p v n]
  unfold updN
  by_cases h:n=p
  ·subst h
   rw[if_neg (Nat.lt_irrefl _),if_pos rfl,if_pos (Nat.lt_succ_self _)]
   show _=valN f n+f n*pw n+(v - f n)*pw n
   rw[Int.sub_mul];omega
  ·rw [if_neg h]
   by_cases h2:p<n
   ·rw[if_pos h2,if_pos (by omega)]
    show _=valN f n+f n*pw n+(v - f p)*pw p
    omega
   ·rw[if_neg h2,if_neg (by omega)];rfl
theorem digs_upd {f:Nat→Int} (h:Digs f) {v:Int} (p:Nat) (hv:0≤v∧v≤65535):Digs (updN f p v):=fun i=>by
 unfold updN
 split
 ·exact hv
 ·exact h i
/-- Above some place all digits are the same. -/
theorem valN_same {f g:Nat→Int} (i:Nat):∀ n,(∀ j,i≤j→j<n→f j=g j)→i≤n→valN f n - valN g n=valN f i - valN g i
  | 0, _, hi => by have:i=0:=by omega
                   subst this;rfl
  | n + 1,h,hi=>by
    by_cases e:i=n+1
    · subst e;rfl
    · have h1:=valN_same i n (fun j a b=>h j a (by omega)) (by omega)
      have h2:=h n (by omega) (by omega)
      show(valN f n+f n*pw n) - (valN g n+g n*pw n)=_
      rw[h2];omega
theorem valN_more {f g:Nat→Int} (hf:Digs f) (hg:Digs g) {i n:Nat} (hi:i<n) (h:∀ j,i+1≤j→j<n→f j=g j):(g i<f i→valN g n<valN f n)∧(f i<g i→valN f n<valN g n):=by
 have h1:=valN_same (i+1) n h (by omega)
 have h2:=valN_bound hf i
 have h3:=valN_bound hg i
 have h4:=pw_pos i
 have e1:valN f (i+1)=valN f i+f i*pw i:=rfl
 have e2:valN g (i+1)=valN g i+g i*pw i:=rfl
 constructor
 ·intro h5
  have h6:(g i+1)*pw i≤f i*pw i:=Int.mul_le_mul_of_nonneg_right (by omega) (by omega)
  rw[Int.add_mul] at h6
  omega
 ·intro h5
  have h6:(f i+1)*pw i≤g i*pw i:=Int.mul_le_mul_of_nonneg_right (by omega) (by omega)
  rw[Int.add_mul] at h6
  omega
/-- The digits of a number. -/
def digN (n:Int):Nat→Int:=fun i=>n / pw i % 65536
theorem digN_digs (n:Int):Digs (digN n):=fun i=>by
 unfold digN
 have h1:=Int.emod_nonneg (n / pw i) (show(65536:Int)≠0 by decide)
 have h2:=Int.emod_lt_of_pos (n / pw i) (show(0:Int)<65536 by decide)
 omega
theorem div_pw (n:Int) (i:Nat):n / pw (i+1)=n / pw i / 65536:=by
 have h:=pw_pos i
 rw[pw_succ,Int.mul_comm,Int.ediv_ediv,if_neg (fun z=>by omega),Int.sub_zero]
theorem valN_dig (n:Int):∀ i,valN (digN n) i+n / pw i*pw i=n
 | 0=>by simp[valN,pw]
 | i + 1=>by
  have h1:=valN_dig n i
  show valN (digN n) i+(n / pw i % 65536)*pw i+n / pw (i+1)*pw (i+1)=n
  rw[div_pw,pw_succ]
  have h2:=Int.emod_add_mul_ediv (n / pw i) 65536
  generalize n / pw i=q at *
  have h3:q*pw i=(q % 65536)*pw i+(q / 65536)*(65536*pw i):=by
   have:q*pw i=(q % 65536+65536*(q / 65536))*pw i:=by rw[h2]
   rw[this,Int.add_mul,Int.mul_assoc,Int.mul_left_comm 65536]
  omega
theorem valN_four {n:Int} (h0:0≤n) (h1:n≤9223372036854775807):valN (digN n) 4=n:=by
 have h2:=valN_dig n 4
 have h3:n / pw 4=0:=Int.ediv_eq_zero_of_lt h0 (by show n<65536*(65536*(65536*(65536*1)));omega)
 rw[h3] at h2
 omega
/-- What the digits from i on are worth. -/
def topN (f:Nat→Int) (i:Nat):Nat→Int
 | 0=>0
 | m+1=>f i+65536*topN f (i+1) m
theorem top_val (f:Nat→Int):∀ m i,valN f (i+m)=valN f i+topN f i m*pw i
 | 0,i=>by simp[topN]
 | m+1,i=>by
  have h:=top_val f m (i+1)
  rw[show i+1+m=i+(m+1) by omega] at h
  rw[h]
  show valN f i+f i*pw i+topN f (i+1) m*(65536*pw i)=valN f i+(f i+65536*topN f (i+1) m)*pw i
  rw[Int.add_mul,Int.mul_assoc,Int.mul_left_comm 65536]
  omega
theorem top_pos {f:Nat→Int} (h:Digs f):∀ m i,0≤topN f i m
 | 0,i=>Int.le_refl _
 | m+1,i=>by have:=top_pos h m (i+1);have:=h i;show 0≤f i+65536*topN f (i+1) m;omega
theorem top_le {f:Nat→Int} (h:Digs f) (m i:Nat):topN f i m≤valN f (i+m):=by
 have h1:=top_val f m i
 have h2:=(valN_bound h i).1
 have h3:=top_pos h m i
 have h4:=pw_pos i
 have h5:topN f i m*1≤topN f i m*pw i:=Int.mul_le_mul_of_nonneg_left h4 h3
 omega
/-- The greatest number, and the least one's amount, as digits. -/
def mostN:Nat→Int:=fun i=>if i=3 then 32767 else if i<3 then 65535 else 0
theorem mostN_digs:Digs mostN:=fun i=>by unfold mostN;split <;> (try split) <;> omega
theorem mostN_val:∀ m,valN mostN (4+m)=9223372036854775807
 | 0=>by decide
 | m+1=>by
  show valN mostN (4+m)+mostN (4+m)*pw (4+m)=_
  rw[mostN_val m,show mostN (4+m)=0 by unfold mostN;rw[if_neg (by omega),if_neg (by omega)]]
  omega
end Go.Proofs.YtmhikkbdhboodaaGreat

namespace Go.Proofs.YtmhikkbdhboodaaGreat
open Go.RowKit
set_option linter.unusedVariables false
set_option linter.unusedSimpArgs false

theorem log_cells {w:World} {ad:Addr} {n c:Nat} {L:List (Int × Int)} (h:LogAt w (some ad) n c L):∀ j u,(cellsL L)[j]?=some u→w.cell? (ad.add j)=some u:=by
 by_cases hn0:n=0
 ·subst hn0
  have hL:L=[]:=List.length_eq_zero_iff.1 h.1
  subst hL
  intro j u hj
  simp[cellsL] at hj
 ·obtain⟨b,off,e,-⟩:=h.2.2.2 0 (by omega)
  injection e with e
  subst e
  refine cellsL_at fun i hi=>?_
  obtain⟨b',off',e',h1,h2⟩:=h.2.2.2 i (by rw[← h.1];exact hi)
  injection e' with e'
  injection e' with e1 e2
  subst e1 e2
  exact⟨h1,h2⟩
theorem run_log (a:Option Addr) (n c:Nat) (L:List (Int × Int)) (w:World) (ty:TypeId) (hl:LogAt w a n c L) (hn:n≤1000) :
  ∃ v' w',(Builtin.append_ #[24,24] ty #[.slice none 0 0,.slice a n c]).run Tryz.prog w=.ok v' w'∧OwnLog w' w.heap.size v' n L∧Below w.heap.size w w':=by
 obtain⟨i0,hi,hz0,hz1,hz2⟩:=info_parts infoE
 cases a with
 | none =>
  have hn0:n=0:=by
   cases n with
   | zero=>rfl
   | succ m=>obtain⟨b,off,e,-⟩:=hl.2.2.2 0 (by omega);cases e
  subst hn0
  have hL:L=[]:=List.length_eq_zero_iff.1 hl.1
  subst hL
  refine⟨.slice none 0 0,w,?_,⟨rfl,.inl ⟨rfl,rfl⟩⟩,Below.refl _ _⟩
  simp[Builtin.append_,run_underlying undS,sizeOf,typeInfo,hi,Builtin.lenOf,Builtin.firstCells]
 | some ad =>
  obtain⟨v',w',h1,h2,h3,-⟩:=run_append_own w w.heap.size 24 ty 82 i0 (.agg #[.int .i64 0,.int .i64 0]) 2 16 undS hi hz0 hz1 hz2 rfl (by decide) (.slice none 0 0) 0 [] ⟨rfl,.inl ⟨rfl,rfl⟩⟩ ad n c (cellsL L) (by rw[cellsL_len,hl.1]) (log_cells hl) (cellsL_one L) (by rw[Nat.zero_add];simp only[maxLen];omega) (by omega) (Nat.le_refl _)
  refine⟨v',w',h1,by simpa [OwnLog] using h2,?_⟩
  exact(Below.refl _ w).grown h3 (Nat.le_refl _) (fun k hk=>by cases hk)
/-- Memory that was there is as it was. -/
def Nxt (w w':World):Prop:=Below w.heap.size w w'
/-- Entries in memory that was not there. -/
def OwnNew (w w':World) (v:Value) (n:Nat) (L:List (Int × Int)):Prop:=OwnLog w' w.heap.size v n L
theorem wpList_log {ops:Array Oper} {rest:List Oper} {o:Oper} {x0:Act} {Q:Exit→Act→World→Prop} (w:World) (hgd:o.guard=none) (s x:Operand)
  (ho:o.op=.call { callee:=.builtin .append,args := #[s,x],argTypes := #[24,24] })
  (hs:x0.eval s=.slice none 0 0) (a:Option Addr) (n c:Nat) (L:List (Int × Int)) (hx:x0.eval x=.slice a n c) (hl:LogAt w a n c L) (hn:n≤1000)
  (h:∀ v' w',OwnNew w w' v' n L→Nxt w w'→wpList Tryz.prog ops Q rest (x0.put o.dst v') w'):wpList Tryz.prog ops Q (o :: rest) x0 w :=
 wpList_plain hgd fun K hK=>by
  obtain⟨v',w',hr,h2,h3⟩:=run_log a n c L w o.type hl hn
  unfold Oper.wp execOp
  simp only[ho,resolve,invoke,builtin,Sem.run_bind,Sem.run_pure,Result.andThen_ok,List.map_toArray,List.map_cons,List.map_nil,hs,hx,hr]
  exact hK _ _ (h v' w' h2 h3)

/-! ### answers put behind one another -/
theorem sz_bl {w w':World} {B:Nat} (h:B≤w.heap.size) (hb:Below w.heap.size w w'):B≤w'.heap.size:=Nat.le_trans h hb.size
theorem sz_set {w:World} {a:Addr} {v:Value} {B:Nat} (h:B≤w.heap.size):B≤(w.setCell a v).heap.size:=by simpa using h
theorem cellsL_app (A B:List (Int × Int)):cellsL (A ++ B)=cellsL A ++ cellsL B:=by
 induction A with
 | nil=>rfl
 | cons e l ih=>simp only[List.cons_append,cellsL,ih]
theorem wp_entry {o:Oper} {x0:Act} {K:Act→World→Prop} {Q:Exit→Act→World→Prop} (w:World) (s x:Operand)
  (ho:o.op=.call { callee:=.builtin .append,args := #[s,x],argTypes := #[24,24] })
  (base:Nat) (v:Value) (n:Nat) (L:List (Int × Int)) (hs:x0.eval s=v) (hown:OwnLog w base v n L) (q c:Nat) (T C:Int) (hx:x0.eval x=.slice (some ⟨q,0,none⟩) 1 c)
  (h0:w.cell? ⟨q,0,none⟩=some (.int .i64 T)) (h1:w.cell? ⟨q,1,none⟩=some (.int .i64 C)) (hn:n≤1000) (hbase:base≤w.heap.size)
  (h:∀ v' w',OwnLog w' base v' (n+1) (L ++ [(T,C)])→w.grownBy w' v.ownBlock→K (x0.put o.dst v') w'):o.wp Tryz.prog x0 w K Q:=by
 obtain⟨i0,hi,hz0,hz1,hz2⟩:=info_parts infoE
 have hnews:∀ j x,(cellsL [(T,C)])[j]?=some x→w.cell? ((⟨q,0,none⟩:Addr).add j)=some x:=fun j x hx=>by
  match j with
  | 0=>simp[cellsL] at hx;subst hx;rw[Addr.add_lit];exact h0
  | 1=>simp[cellsL] at hx;subst hx;rw[Addr.add_lit];exact h1
  | j+2=>simp[cellsL] at hx
 obtain⟨v',w',hr,h2,h3,-⟩:=run_append_own w base 24 o.type 82 i0 (.agg #[.int .i64 0,.int .i64 0]) 2 16 undS hi hz0 hz1 hz2 rfl (by decide) v n (cellsL L) hown ⟨q,0,none⟩ 1 c (cellsL [(T,C)]) rfl hnews (cellsL_one _) (by simp only[maxLen];omega) (by omega) hbase
 have h2':OwnLog w' base v' (n+1) (L ++ [(T,C)]):=by unfold OwnLog;rw[cellsL_app];exact h2
 unfold Oper.wp execOp
 simp only[ho,resolve,invoke,builtin,Sem.run_bind,Sem.run_pure,Result.andThen_ok,List.map_toArray,List.map_cons,List.map_nil,hs,hx,hr]
 exact h v' w' h2' h3
end Go.Proofs.YtmhikkbdhboodaaGreat
