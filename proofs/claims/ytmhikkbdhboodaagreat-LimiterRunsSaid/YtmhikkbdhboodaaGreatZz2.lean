/-
  What slices.Clone answers at entries.
  A log with some cost more, in plain words.
  What window.logged answers.
  What window.Right answers.
  What window.Advance answers.
  What window.note answers.
  What window.note answers where an entry is added.
  What window.Advance answers: the other ways, and all in one.
  What window.note and slices.Clone answer: all ways in one.
  What gcra.Do, counter.Do and window.Do answer where the state may not be; gcra.Do where the cost may not be.
  What bucket's acts make of a state: the two that call nothing.
  What bucket.acts answers: a map of four functions; what is found in it.
  What bucket's acts make of a state: the two that call another one.
  What bucket.Right answers.
  What bucket.Right answers: at every policy and every state.
  What bucket.Advance answers.
  No condition.
-/
import Derived.Test.YtmhikkbdhboodaaGreatZz1
import Derived.Lib.SliceRun
import Derived.Laws.AppendOwn
import Derived.Laws.OwnMore
import Derived.WalkMore
import Derived.LoopN
import Derived.Laws.EntriesVeiled
import Derived.WideLaws
import Derived.Maps.OwnSet
set_option maxHeartbeats 8000000
set_option maxRecDepth 100000
namespace Go.Proofs.YtmhikkbdhboodaaGreat
open Go.RowKit
set_option linter.unusedVariables false
set_option linter.unusedSimpArgs false

/-- Entries as cells. -/
def cellsL:List (Int × Int)→List Value
  | []=>[]
  | e :: l => .int .i64 e.1 :: .int .i64 e.2 :: cellsL l
theorem cellsL_len (L:List (Int × Int)):(cellsL L).length=L.length*2:=by
  induction L with
  | nil=>rfl
  | cons e l ih=>simp only[cellsL,List.length_cons,ih];omega
theorem cellsL_get (L:List (Int × Int)) (i:Nat) (h:i<L.length):(cellsL L)[i*2]?=some (.int .i64 (L.getD i (0,0)).1)∧(cellsL L)[i*2+1]?=some (.int .i64 (L.getD i (0,0)).2):=by
  induction L generalizing i with
  | nil=>simp at h
  | cons e l ih =>
    cases i with
    | zero=>simp[cellsL]
    | succ i =>
      have:=ih i (by simpa using h)
      rw[show(i+1)*2=i*2+1+1 by omega]
      simpa [cellsL] using this
theorem cellsL_one (L:List (Int × Int)):∀ u ∈ cellsL L,u.oneCell'=true:=by
  induction L with
  | nil=>intro u h;cases h
  | cons e l ih =>
    intro u h
    simp only[cellsL,List.mem_cons] at h
    rcases h with rfl|rfl|h
    · rfl
    · rfl
    · exact ih u h
theorem cellsL_at {L:List (Int × Int)} {b off:Nat} {w:World} (h:∀ i,i<L.length→w.cell? ⟨b,off+i*2,none⟩=some (.int .i64 (L.getD i (0,0)).1)∧w.cell? ⟨b,off+i*2+1,none⟩=some (.int .i64 (L.getD i (0,0)).2)) :
    ∀ j u,(cellsL L)[j]?=some u→w.cell? ((⟨b,off,none⟩:Addr).add j)=some u:=by
  intro j u hj
  have hjl:j<(cellsL L).length:=(List.getElem?_eq_some_iff.1 hj).1
  rw[cellsL_len] at hjl
  have hd:j=j / 2*2∨j=j / 2*2+1:=by omega
  have h1:=h (j / 2) (by omega)
  have h2:=cellsL_get L (j / 2) (by omega)
  rcases hd with e|e
  · rw[e] at hj ⊢
    rw[h2.1] at hj
    rw[Addr.add_lit,← hj]
    exact h1.1
  · rw[e] at hj ⊢
    rw[h2.2] at hj
    rw[Addr.add_lit,← hj,← Nat.add_assoc]
    exact h1.2
/-- Entries of one's own. -/
def OwnLog (w:World) (base:Nat) (v:Value) (n:Nat) (L:List (Int × Int)):Prop:=w.ownsRow base 82 2 v n (cellsL L)

theorem infoE:(Tryz.prog.info? 82).map (fun i=>(i.zero,i.size,i.bytes))=some (some (.agg #[.int .i64 0,.int .i64 0]),2,16):=by kernel_rfl
theorem undS:Tryz.prog.underlying 24=some (.slice 82):=by kernel_rfl

theorem clone_nil (n c:Nat) (w:World):Calls Tryz.prog 142 #[.slice none n c] w fun e w'=>e=.returned (.slice none 0 0)∧w=w':=by
  have q22:∀ (w:World) (a:Option Addr) (n c n' c':Nat),(binOp .eql 24 (.slice a n c) (.slice none n' c')).run Tryz.prog w=.ok (.bool a.isNone) w:=fun w a n c n' c'=>Lib.run_eql_slice_nil w _ _ a n c n' c' undS
  go_enter Tryz.func142,Tryz.ntmps142
  go_wp2
  go_ret
  exact⟨rfl,rfl⟩

theorem clone_any (ad:Addr) (n c:Nat) (L:List (Int × Int)) (w:World) (hl:L.length=n) (hn:n≤1000) (hc:∀ j u,(cellsL L)[j]?=some u→w.cell? (ad.add j)=some u) :
    Calls Tryz.prog 142 #[.slice (some ad) n c] w fun e w'=>∃ v',e=.returned v'∧OwnLog w' w.heap.size v' n L∧Below w.heap.size w w':=by
  have q22:∀ (w:World) (a:Option Addr) (n c n' c':Nat),(binOp .eql 24 (.slice a n c) (.slice none n' c')).run Tryz.prog w=.ok (.bool a.isNone) w:=fun w a n c n' c'=>Lib.run_eql_slice_nil w _ _ a n c n' c' undS
  have u22:∀ w,Sem.run Tryz.prog (underlying 24) w=.ok (TypeDesc.slice 82) w:=run_underlying undS
  have z23:∀ w,(Go.sizeOf 82).run Tryz.prog w=.ok 2 w:=by intro w;kernel_rfl
  obtain⟨i0,hi,hz0,hz1,hz2⟩:=info_parts infoE
  have A:Aside (∀ j u,(cellsL L)[j]?=some u→w.cell? (ad.add j)=some u):=hc
  clear hc
  go_enter Tryz.func142,Tryz.ntmps142
  go_wp2_with (at_builtin;refine wpList_append_own _ rfl _ _ 24 rfl w.heap.size 82 i0 (.agg #[.int .i64 0,.int .i64 0]) 2 16 undS hi hz0 hz1 hz2 rfl (by decide) _ _ _ rfl (World.ownsRow_made w #[] 0 (Nat.le_refl _) (Nat.zero_le _) (by simp)) ad n c (cellsL L) rfl ?qc1 ?qc2 ?qc3 ?qc4 ?qc5 ?qc6 ?_)
  case qc1=>rw[cellsL_len,hl]
  case qc2 =>
    intro j u hj
    exact bl_cell k1 (A.out j u hj)
  case qc3=>exact cellsL_one L
  case qc4=>rw[Nat.zero_add];simp only[maxLen];omega
  case qc5=>rw[Nat.zero_add];omega
  case qc6=>simp
  intro v' w1 hown hgrow hnil
  go_wp2
  go_ret
  refine⟨v',rfl,by simpa [OwnLog] using hown,?_⟩
  exact((Below.refl _ w).alloc (Nat.le_refl _) _).grown hgrow (by simp) (by intro k hk;simp[Value.ownBlock] at hk;omega)
theorem own_log {w:World} {base:Nat} {v:Value} {n:Nat} {L:List (Int × Int)} (h:OwnLog w base v n L):∃ a c,v=.slice a n c∧LogAt w a n c L:=by
  obtain⟨hl,h⟩:=h
  rw[cellsL_len] at hl
  have hl':L.length=n:=by omega
  rcases h with⟨rfl,rfl⟩|⟨g,cap,cur,rfl,hb,hg,hn,hc,hs,ht⟩
  · refine⟨none,0,rfl,?_⟩
    rw[List.length_eq_zero_iff.1 hl']
    exact log_nil _ _ _ (by omega)
  · refine⟨some ⟨g,0,none⟩,cap,rfl,hl',hn,by simp only[maxLen] at hc;omega,fun i hi=>⟨g,0,rfl,?_⟩⟩
    have hg2:=cellsL_get L i (by omega)
    rw[← ht] at hg2
    rw[List.getElem?_take_of_lt (by omega),List.getElem?_take_of_lt (by omega)] at hg2
    simp only[World.cell?,hg,Nat.zero_add]
    exact⟨by simpa using hg2.1,by simpa using hg2.2⟩
theorem cells_drop {L:List (Int × Int)} {b off n k:Nat} {w:World} (hl:L.length=n) (h:∀ i,i<n→w.cell? ⟨b,off+i*2,none⟩=some (.int .i64 (L.getD i (0,0)).1)∧w.cell? ⟨b,off+i*2+1,none⟩=some (.int .i64 (L.getD i (0,0)).2)) :
    ∀ j u,(cellsL (L.drop k))[j]?=some u→w.cell? ((⟨b,off+k*2,none⟩:Addr).add j)=some u:=by
  refine cellsL_at fun i hi=>?_
  rw[List.length_drop] at hi
  have:=h (k+i) (by omega)
  have e:(L.drop k).getD i (0,0)=L.getD (k+i) (0,0):=by simp[List.getD_eq_getElem?_getD,List.getElem?_drop]
  rw[e,show off+k*2+i*2=off+(k+i)*2 by omega]
  exact this
theorem own_mono {w:World} {base base':Nat} {v:Value} {n:Nat} {L:List (Int × Int)} (h:OwnLog w base v n L) (hb:base'≤base):OwnLog w base' v n L:=by
  obtain⟨hl,h⟩:=h
  refine⟨hl,?_⟩
  rcases h with h|⟨g,cap,cur,h1,h2,h3⟩
  · exact .inl h
  · exact .inr ⟨g,cap,cur,h1,Nat.le_trans hb h2,h3⟩
theorem own_set4 {w:World} {base b:Nat} {v v0 v1 v2 v3:Value} {n:Nat} {L:List (Int × Int)} (h:OwnLog w base v n L) (hb:b<base) :
    OwnLog ((((w.setCell ⟨b,0,none⟩ v0).setCell ⟨b,1,none⟩ v1).setCell ⟨b,2,none⟩ v2).setCell ⟨b,3,none⟩ v3) base v n L:=by
  obtain⟨hl,h⟩:=h
  refine⟨hl,?_⟩
  rcases h with h|⟨g,cap,cur,h1,h2,h3,h4⟩
  · exact .inl h
  · refine .inr ⟨g,cap,cur,h1,h2,?_,h4⟩
    rw[Below.heap_setCell _ _ _ _ (by dsimp only;omega),Below.heap_setCell _ _ _ _ (by dsimp only;omega),Below.heap_setCell _ _ _ _ (by dsimp only;omega),Below.heap_setCell _ _ _ _ (by dsimp only;omega)]
    exact h3
/-- Is it written into the last entry? -/
def into (full:Bool) (at_:Int) (L:List (Int × Int)):Prop:=L≠[]∧((L.getD (L.length - 1) (0,0)).1=at_∨full=true)
theorem noteL_cons (full:Bool) (at_ cost:Int) (e f:Int × Int) (l:List (Int × Int)):noteL full at_ cost (e :: f :: l)=e :: noteL full at_ cost (f :: l):=rfl
theorem into_cons {full:Bool} {at_:Int} {e f:Int × Int} {l:List (Int × Int)}:into full at_ (e :: f :: l)↔into full at_ (f :: l):=by
  unfold into
  simp
theorem note_app (full:Bool) (at_ cost:Int):∀ (L:List (Int × Int)),¬ into full at_ L→noteL full at_ cost L=L ++ [(at_,cost)]
  | [],_=>rfl
  | [e],h=>by
    show(if _ then _ else _)=_
    rw[if_neg (fun h1=>h ⟨by simp,by simpa using h1⟩)]
    rfl
  | e :: f :: l,h=>by
    rw[noteL_cons,note_app full at_ cost (f :: l) (fun h1=>h (into_cons.2 h1))]
    rfl
theorem note_into (full:Bool) (at_ cost:Int):∀ (L:List (Int × Int)),into full at_ L →
    cellsL (noteL full at_ cost L)=((cellsL L).set ((L.length - 1)*2) (.int .i64 at_)).set ((L.length - 1)*2+1) (.int .i64 ((L.getD (L.length - 1) (0,0)).2+cost))∧(noteL full at_ cost L).length=L.length
  | [],h=>absurd rfl h.1
  | [e],h=>by
    have h2:e.1=at_∨full=true:=by simpa [into] using h
    have e1:noteL full at_ cost [e]=[(at_,e.2+cost)]:=if_pos h2
    rw[e1]
    exact⟨by simp[cellsL],rfl⟩
  | e :: f :: l,h=>by
    have ih:=note_into full at_ cost (f :: l) (into_cons.1 h)
    rw[noteL_cons]
    refine⟨?_,by simp[ih.2]⟩
    simp only[cellsL] at ih ⊢
    rw[ih.1]
    have e1:(e :: f :: l).length - 1=((f :: l).length - 1)+1:=by simp
    have e2:(e :: f :: l).getD ((f :: l).length - 1+1) (0,0)=(f :: l).getD ((f :: l).length - 1) (0,0):=by simp
    rw[e1,e2,show((f :: l).length - 1+1)*2=((f :: l).length - 1)*2+1+1 by omega,show((f :: l).length - 1)*2+1+1+1=(((f :: l).length - 1)*2+1)+1+1 by omega]
    simp only[List.set_cons_succ]
theorem risen_all {limit at_:Int}:∀ {was:Int} {L:List (Int × Int)},risen limit at_ was L→∀ e ∈ L,1≤e.2∧e.2≤limit∧was≤e.1∧e.1≤at_
  | _,[],_,e,h=>by cases h
  | was,x :: l,h,e,he=>by
    obtain⟨h1,h2,h3,h4,h5⟩:=h
    rcases List.mem_cons.1 he with rfl|he
    · exact⟨h3,h4,h1,h2⟩
    · have:=risen_all h5 e he
      exact⟨this.1,this.2.1,by omega,this.2.2.2⟩
theorem risen_cons {limit at_ was:Int} {e:Int × Int} {l:List (Int × Int)}:risen limit at_ was (e :: l)↔(was≤e.1∧e.1≤at_∧1≤e.2∧e.2≤limit∧risen limit at_ e.1 l):=Iff.rfl
theorem drop_getD (L:List (Int × Int)) (k:Nat) (h:k<L.length):L.drop k=L.getD k (0,0) :: L.drop (k+1):=by
  rw[List.drop_eq_getElem_cons h,List.getD_eq_getElem?_getD,List.getElem?_eq_getElem h]
  rfl

theorem logged_walk (k l d b cc:Int) (o:Bool) (at_ level held:Int) (a:Option Addr) (n c:Nat) (L:List (Int × Int)) (w:World) (hlog:LogAt w a n c L) (r:Bool)
    (hl:1≤l∧l≤1048576) (hcc:cc≤100) (hh:0≤held∧held≤l)
    (hr:r=true↔(risen l at_ 0 L∧(n:Int)≤cc∧held+sumL L≤l)) :
    Calls Tryz.prog 154 #[.agg #[.int .i64 k,.int .i64 l,.int .i64 d,.int .i64 b,.int .i64 cc,.bool o],.agg #[.int .i64 at_,.int .i64 level,.int .i64 held,.slice a n c]] w fun e w'=>e=.returned (.bool r)∧Below w.heap.size w w':=by
  have HR:=Go.Lib.hid hr
  have HL:=Go.Lib.hid hlog
  have HX:=Go.Lib.hid (And.intro hl (And.intro hcc hh))
  have hdr:∀ j,j<n→L.drop j=L.getD j (0,0) :: L.drop (j+1):=fun j hj=>drop_getD L j (by rw[hlog.1];exact hj)
  have hdn:L.drop n=[]:=List.drop_eq_nil_of_le (by rw[hlog.1];exact Nat.le_refl _)
  have HD:=Go.Lib.hid (And.intro hdr hdn)
  clear hr hlog hl hcc hh hdr hdn
  go_enter Tryz.func154,Tryz.ntmps154
  go_wp2_with fail
  refine wp_abs (S0:=fun w'=>P6 w' (w.heap.size) k l d b cc o (S4 w' (w.heap.size+1) at_ level held a n c (Below w.heap.size w w'))) ⟨by go_simp,by go_simp,by go_simp,by go_simp,by go_simp,by go_simp,by go_simp,by go_simp,by go_simp,by go_simp,k2⟩ ?_
  rintro W ⟨c0,c1,c2,c3,c4,c5,c6,c7,c8,c9,hB⟩
  go_loopw [5,11] (fun s5 s11 wr=>∃ (x:Int) (j:Nat),s5=.int .i64 x∧s11=.int .i64 j∧j≤n∧Hid (Below W.heap.size W wr∧(risen l at_ 0 L↔risen l at_ x (L.drop j))))
    (fun _ s11 _=>n - (intOf s11).toNat)
  case atStart=>exact⟨0,0,rfl,rfl,Nat.zero_le _,⟨Below.refl _ _,by simp⟩⟩
  case round =>
    obtain⟨x,j,rfl,rfl,hj,H⟩:=hrel
    obtain⟨hb,hri⟩:=H.out
    have d0:=bl_cell hb c0
    have d1:=bl_cell hb c1
    have d2:=bl_cell hb c2
    have d3:=bl_cell hb c3
    have d4:=bl_cell hb c4
    have d5:=bl_cell hb c5
    have d6:=bl_cell hb c6
    have d7:=bl_cell hb c7
    have d8:=bl_cell hb c8
    have d9:=bl_cell hb c9
    have dB:Below w.heap.size w wr:=hB.trans (hb.mono hB.size)
    have l1:w.heap.size+1<wr.heap.size:=World.block_lt_of_cell? wr _ d6
    have l0:w.heap.size<wr.heap.size:=by omega
    by_cases hjn:j<n
    · obtain ⟨bb,off,rfl,h1,h2⟩:=HL.out.2.2.2 j hjn
      have g1:=bl_cell dB h1
      have g2:=bl_cell dB h2
      rw[HD.out.1 j hjn] at hri
      rw[risen_cons] at hri
      generalize (L.getD j (0,0)).1=T at g1 hri
      generalize (L.getD j (0,0)).2=C at g2 hri
      have hk0:(0:Int)≤(j:Int):=by omega
      have hk1:(j:Int)<(n:Int):=by omega
      have hj1:j+1≤n:=hjn
      have hnm:(n:Int)≤9223372036854775807:=by have:=HL.out.2.1;have:=HL.out.2.2.1;omega
      have hms:n - (j+1)<n - j:=by omega
      have HRI:=Go.Lib.hid hri
      clear h1 h2 hri H hB c0 c1 c2 c3 c4 c5 c6 c7 c8 c9
      by_cases q1:x≤T
      · have e0 : ¬ T<x:=by omega
        by_cases q2:T≤at_
        · have e1:¬ at_<T:=by omega
          by_cases q3:1≤C
          · have e2:¬ C<1:=by omega
            by_cases q4:C≤l
            · have e3:¬ l<C:=by omega
              go_wp2_with fail
              go_roundw
              case rel=>exact⟨T,j+1,rfl,by go_num,hj1,⟨hb.trans (k1 |>.mono hb.size),HRI.out.trans ⟨fun z=>z.2.2.2.2,fun z=>⟨q1,q2,q3,q4,z⟩⟩⟩⟩
              case measure=>(simp[intOf];first|exact hms|omega)
            · have e3:l<C:=by omega
              go_wp2_with fail
              go_ret
              have hfalse:r=false:=by
                cases hrr:r
                · rfl
                · exact absurd (HRI.out.1 (HR.out.1 hrr).1) (by intro hz;omega)
              exact⟨by subst hfalse;rfl,bl_alloc dB _⟩
          · have e2:C<1:=by omega
            go_wp2_with fail
            go_ret
            have hfalse:r=false:=by
              cases hrr:r
              · rfl
              · exact absurd (HRI.out.1 (HR.out.1 hrr).1) (by intro hz;omega)
            exact⟨by subst hfalse;rfl,bl_alloc dB _⟩
        · have e1:at_<T:=by omega
          go_wp2_with fail
          go_ret
          have hfalse:r=false:=by
            cases hrr:r
            · rfl
            · exact absurd (HRI.out.1 (HR.out.1 hrr).1) (by intro hz;omega)
          exact⟨by subst hfalse;rfl,bl_alloc dB _⟩
      · have e0:T<x:=by omega
        go_wp2_with fail
        go_ret
        have hfalse:r=false:=by
          cases hrr:r
          · rfl
          · exact absurd (HRI.out.1 (HR.out.1 hrr).1) (by intro hz;omega)
        exact⟨by subst hfalse;rfl,bl_alloc dB _⟩
    · have hje:n=j:=by omega
      subst hje
      rw[HD.out.2] at hri
      have HRI:=Go.Lib.hid (show risen l at_ 0 L from hri.2 trivial)
      clear hri H hb hB c0 c1 c2 c3 c4 c5 c6 c7 c8 c9
      have hall:=risen_all HRI.out
      have hX:=HX.out
      go_wp2_with fail
      have hlogr:=log_bl HL.out dB
      by_cases hcap:(n:Int)≤cc
      · have hsum:=fun W hW=>sum_any a n c L W hW (by omega) (fun e he=>⟨by have:=(hall e he).1;omega,by have:=(hall e he).2.1;omega⟩)
        have hsb:=sumL_bound L 1048576 (fun e he=>⟨by have:=(hall e he).1;omega,by have:=(hall e he).2.1;omega⟩)
        have hlen:(L.length:Int)*1048576≤104857600:=by rw[HL.out.1];omega
        have hw:IntKind.i64.wrap (held+sumL L)=held+sumL L:=IntWalk.i64_in _ (by omega)
        have hcapd:decide ((n:Int)≤cc)=true:=decide_eq_true hcap
        obtain⟨g,hg⟩:∃ g,decide (held+sumL L≤l)=g:=⟨_,rfl⟩
        have hrg:g=r:=by rw[Bool.eq_iff_iff,HR.out,← hg,decide_eq_true_eq];exact⟨fun z=>⟨HRI.out,hcap,z⟩,fun z=>z.2.2⟩
        have HS:=Go.Lib.hid hsum
        have HLR:=Go.Lib.hid hlogr
        generalize sumL L=SL at *
        clear hall hX hsum hsb hlen hlogr
        refine wp_region_held_drew (S:=fun w'=>LogAt w' a n c L∧P6 w' (w.heap.size) k l d b cc o (S4 w' (w.heap.size+1) at_ level held a n c (Below w.heap.size w w'))) (by kernel_rfl) ?_ (fun hHeld=>?_)
        · exact⟨HLR.out,d0,d1,d2,d3,d4,d5,d6,d7,d8,d9,bl_drew dB⟩
        try simp only[Act.put,List.setIfInBounds_toArray,List.set_cons_zero,List.set_cons_succ]
        refine tkx 0 ?_
        refine tkx 1 ?_
        refine tkx 2 ?_
        refine tkx 3 ?_
        refine tkx 4 ?_
        refine tkx 5 ?_
        refine tkx 6 ?_
        refine tkx 7 ?_
        refine tkx 8 ?_
        refine tkx 9 ?_
        refine tkx 10 ?_
        refine tkx 13 ?_
        refine tkx 14 ?_
        (refine callH (i:=11) rfl hHeld (fun W hW K hK=>?_);clear hHeld;(try dsimp only at hW);obtain⟨hwl,hwr⟩:=hW;go_simp;refine(HS.out _ hwl).mono ?_;rintro e w1 ⟨rfl,hb⟩;go_wp2_with fail;refine hK.out _ _ ?_ (fun hHeld=>?_);(focus((try dsimp only);(obtain⟨h0,h1,h2,h3,h4,h5,h6,h7,h8,h9,hB'⟩:=hwr;exact⟨log_bl hwl hb,bl_cell hb h0,bl_cell hb h1,bl_cell hb h2,bl_cell hb h3,bl_cell hb h4,bl_cell hb h5,bl_cell hb h6,bl_cell hb h7,bl_cell hb h8,bl_cell hb h9,bl_then hB' hb⟩)));clear hK K;try simp only[Act.put,List.setIfInBounds_toArray,List.set_cons_zero,List.set_cons_succ])
        refine tkx 12 ?_
        refine tkx 15 ?_
        refine tkx 16 ?_
        refine tkx 17 ?_
        refine wpAnyH_done (by kernel_rfl) ?_ _
        obtain⟨-,-,-,-,-,-,-,-,-,-,-,hE⟩:=hHeld
        repeat' (first|go_skip|go_guarded|go_step|go_upon)
        go_ret
        exact⟨by subst hrg;rfl,hE⟩
      · have hcapd:decide ((n:Int)≤cc)=false:=decide_eq_false hcap
        have hrf:r=false:=by
          cases hrr:r
          · rfl
          · exact absurd (HR.out.1 hrr).2.1 hcap
        clear hall hX hlogr
        refine wp_region_held_drew (S:=fun w'=>P6 w' (w.heap.size) k l d b cc o (S4 w' (w.heap.size+1) at_ level held a n c (Below w.heap.size w w'))) (by kernel_rfl) ?_ (fun hHeld=>?_)
        · exact⟨d0,d1,d2,d3,d4,d5,d6,d7,d8,d9,bl_drew dB⟩
        try simp only[Act.put,List.setIfInBounds_toArray,List.set_cons_zero,List.set_cons_succ]
        refine tkx 0 ?_
        refine tkx 1 ?_
        refine tkx 2 ?_
        refine tkx 3 ?_
        refine tkx 4 ?_
        refine tkx 5 ?_
        refine tkx 6 ?_
        first|refine tqx 7 ?_|refine tkx 7 ?_
        first|refine tqx 8 ?_|refine tkx 8 ?_
        first|refine tqx 9 ?_|refine tkx 9 ?_
        first|refine tqx 10 ?_|refine tkx 10 ?_
        first|refine tqx 13 ?_|refine tkx 13 ?_
        first|refine tqx 14 ?_|refine tkx 14 ?_
        first|refine tqx 11 ?_|refine tkx 11 ?_
        first|refine tqx 12 ?_|refine tkx 12 ?_
        first|refine tqx 15 ?_|refine tkx 15 ?_
        refine tkx 16 ?_
        refine tkx 17 ?_
        refine wpAnyH_done (by kernel_rfl) ?_ _
        obtain⟨-,-,-,-,-,-,-,-,-,-,hE⟩:=hHeld
        repeat' (first|go_skip|go_guarded|go_step|go_upon)
        go_ret
        exact⟨by subst hrf;rfl,hE⟩
theorem wright_walk (k l d b cc:Int) (o:Bool) (at_ level held:Int) (a:Option Addr) (n c:Nat) (L:List (Int × Int)) (w:World) (hlog:LogAt w a n c L) (r:Bool)
    (hr:r=true↔(okL ⟨k,l,d,b,cc,o⟩∧0≤at_∧at_≤9007199254740992∧0≤held∧held≤l∧level=0∧risen l at_ 0 L∧(n:Int)≤cc∧held+sumL L≤l)) :
    Calls Tryz.prog 105 #[.agg #[.int .i64 k,.int .i64 l,.int .i64 d,.int .i64 b,.int .i64 cc,.bool o],.agg #[.int .i64 at_,.int .i64 level,.int .i64 held,.slice a n c]] w fun e w'=>e=.returned (.bool r)∧Below w.heap.size w w':=by
  have HR:=Go.Lib.hid hr
  clear hr
  have hck:=wcheck_any ⟨k,l,d,b,cc,o⟩
  unfold Pol.v at hck
  dsimp only at hck
  have hC:(chkL ⟨k,l,d,b,cc,o⟩=0∧okL ⟨k,l,d,b,cc,o⟩)∨(chkL ⟨k,l,d,b,cc,o⟩=2∧¬ okL ⟨k,l,d,b,cc,o⟩):=by
    by_cases h:okL ⟨k,l,d,b,cc,o⟩
    · exact .inl ⟨(chkL_ok h).symm,h⟩
    · exact .inr ⟨(chkL_no h).symm,h⟩
  generalize chkL ⟨k,l,d,b,cc,o⟩=C at *
  have HC:=Go.Lib.hid hC
  have HCK:=Go.Lib.hid hck
  obtain⟨g5,hg5⟩:∃ g:Bool,g=decide (risen l at_ 0 L∧(n:Int)≤cc∧held+sumL L≤l):=⟨_,rfl⟩
  have hg5':g5=true↔(risen l at_ 0 L∧(n:Int)≤cc∧held+sumL L≤l):=by rw[hg5,decide_eq_true_eq]
  have HLG:=Go.Lib.hid (show okL ⟨k,l,d,b,cc,o⟩→0≤held→held≤l→∀ W,LogAt W a n c L→_ from fun hok h0 h1 W hW=>logged_walk k l d b cc o at_ level held a n c L W hW g5 ⟨hok.2.1,hok.2.2.2.2.1⟩ hok.2.2.2.2.2.2.1 ⟨h0,h1⟩ hg5')
  have H5:=Go.Lib.hid hg5'
  clear hg5 hg5'
  have hcl:=clamp_any at_
  have hT:(clampT at_ == at_)=true↔0≤at_∧at_≤9007199254740992:=by
    have:=clampT_range at_
    rw[beq_iff_eq]
    constructor
    · intro h;omega
    · intro h;exact clampT_id h.1 h.2
  generalize clampT at_=T at *
  obtain⟨g1,hg1⟩:∃ g,(T == at_)=g:=⟨_,rfl⟩
  have hg1':decide (T=at_)=g1:=hg1
  obtain⟨g2,hg2⟩:∃ g,decide (0≤held)=g:=⟨_,rfl⟩
  obtain⟨g3,hg3⟩:∃ g,decide (held≤l)=g:=⟨_,rfl⟩
  obtain⟨g4,hg4⟩:∃ g,(level == 0)=g:=⟨_,rfl⟩
  have hg4':decide (level=0)=g4:=hg4
  rw[hg1] at hT
  have HT:=Go.Lib.hid hT
  have HCL:=Go.Lib.hid hcl
  have HLOG:=Go.Lib.hid hlog
  clear hck hC hcl hT hlog
  go_enter Tryz.func105,Tryz.ntmps105
  go_wp2_with fail
  refine wp_abs (S0:=fun w'=>P6 w' (w.heap.size) k l d b cc o (S4 w' (w.heap.size+1) at_ level held a n c (LogAt w' a n c L∧Below w.heap.size w w'))) ⟨by go_simp,by go_simp,by go_simp,by go_simp,by go_simp,by go_simp,by go_simp,by go_simp,by go_simp,by go_simp,log_bl HLOG.out k2,k2⟩ ?_
  rintro W ⟨c0,c1,c2,c3,c4,c5,c6,c7,c8,c9,hLG,hB⟩
  refine wp_region_held_drew (S:=fun w'=>P6 w' (w.heap.size) k l d b cc o (S4 w' (w.heap.size+1) at_ level held a n c (LogAt w' a n c L∧Below w.heap.size w w'))) (by kernel_rfl) ?_ (fun hHeld=>?_)
  · exact⟨c0,c1,c2,c3,c4,c5,c6,c7,c8,c9,hLG,bl_drew hB⟩
  try simp only[Act.put,List.setIfInBounds_toArray,List.set_cons_zero,List.set_cons_succ]
  all_goals refine tkx 0 ?_
  all_goals((refine callH (i:=1) rfl hHeld (fun W hW K hK=>?_);clear hHeld;(try dsimp only at hW);go_simp;refine(HCK.out _).mono ?_;rintro e w1 ⟨rfl,hb⟩;go_wp2_with fail;refine hK.out _ _ ?_ (fun hHeld=>?_);(focus((try dsimp only);(obtain⟨h0,h1,h2,h3,h4,h5,h6,h7,h8,h9,hlg,hB'⟩:=hW;exact⟨bl_cell hb h0,bl_cell hb h1,bl_cell hb h2,bl_cell hb h3,bl_cell hb h4,bl_cell hb h5,bl_cell hb h6,bl_cell hb h7,bl_cell hb h8,bl_cell hb h9,log_bl hlg hb,bl_then hB' hb⟩)));clear hK K;try simp only[Act.put,List.setIfInBounds_toArray,List.set_cons_zero,List.set_cons_succ]))
  rcases HC.out with⟨rfl,hok⟩|⟨rfl,hok⟩
  all_goals refine tkx 2 ?_
  all_goals refine tkx 3 ?_
  all_goals(first|(refine tqx 4 ?_)|(refine tkx 4 ?_))
  all_goals(first|(refine tqx 5 ?_)|(refine tkx 5 ?_))
  all_goals(first|(refine tqx 7 ?_)|(refine tkx 7 ?_))
  all_goals(first|(refine tqx 8 ?_)|(refine tkx 8 ?_))
  all_goals(first|(refine tqx 6 ?_)|(refine callH (i:=6) rfl hHeld (fun W hW K hK=>?_);clear hHeld;(try dsimp only at hW);go_simp;refine(HCL.out _).mono ?_;rintro e w1 ⟨rfl,rfl⟩;go_wp2_with fail;refine hK.out _ _ ?_ (fun hHeld=>?_);(focus((try dsimp only);exact hW));clear hK K;try simp only[Act.put,List.setIfInBounds_toArray,List.set_cons_zero,List.set_cons_succ]))
  all_goals(first|(refine tqx 9 ?_)|(refine tkx 9 ?_))
  all_goals refine tkx 10 ?_
  all_goals(first|((fail_if_success (clear hg1 hg1' HT g1));cases g1)|skip)
  all_goals refine tkx 11 ?_
  all_goals(first|(refine tqx 12 ?_)|(refine tkx 12 ?_))
  all_goals(first|(refine tqx 13 ?_)|(refine tkx 13 ?_))
  all_goals(first|(refine tqx 14 ?_)|(refine tkx 14 ?_))
  all_goals refine tkx 15 ?_
  all_goals(first|((fail_if_success (clear hg2 g2));cases g2)|skip)
  all_goals refine tkx 16 ?_
  all_goals(first|(refine tqx 17 ?_)|(refine tkx 17 ?_))
  all_goals(first|(refine tqx 18 ?_)|(refine tkx 18 ?_))
  all_goals(first|(refine tqx 19 ?_)|(refine tkx 19 ?_))
  all_goals(first|(refine tqx 20 ?_)|(refine tkx 20 ?_))
  all_goals(first|(refine tqx 21 ?_)|(refine tkx 21 ?_))
  all_goals refine tkx 22 ?_
  all_goals(first|((fail_if_success (clear hg3 g3));cases g3)|skip)
  all_goals refine tkx 23 ?_
  all_goals(first|(refine tqx 24 ?_)|(refine tkx 24 ?_))
  all_goals(first|(refine tqx 25 ?_)|(refine tkx 25 ?_))
  all_goals(first|(refine tqx 26 ?_)|(refine tkx 26 ?_))
  all_goals refine tkx 27 ?_
  all_goals(first|((fail_if_success (clear hg4 hg4' g4));cases g4)|skip)
  all_goals refine tkx 28 ?_
  all_goals(first|(refine tqx 29 ?_)|(refine tkx 29 ?_))
  all_goals(first|(refine tqx 30 ?_)|(refine tkx 30 ?_))
  all_goals(first|(refine tqx 31 ?_)|(refine callH (i:=31) rfl hHeld (fun W hW K hK=>?_);clear hHeld;(try dsimp only at hW);have hwl:=hW.2.2.2.2.2.2.2.2.2.2.1;go_simp;refine(HLG.out hok (by simpa using hg2) (by simpa using hg3) _ hwl).mono ?_;rintro e w1 ⟨rfl,hb⟩;go_wp2_with fail;refine hK.out _ _ ?_ (fun hHeld=>?_);(focus((try dsimp only);(obtain⟨h0,h1,h2,h3,h4,h5,h6,h7,h8,h9,hlg,hB'⟩:=hW;exact⟨bl_cell hb h0,bl_cell hb h1,bl_cell hb h2,bl_cell hb h3,bl_cell hb h4,bl_cell hb h5,bl_cell hb h6,bl_cell hb h7,bl_cell hb h8,bl_cell hb h9,log_bl hlg hb,bl_then hB' hb⟩)));clear hK K;try simp only[Act.put,List.setIfInBounds_toArray,List.set_cons_zero,List.set_cons_succ]))
  all_goals refine tkx 32 ?_
  all_goals refine tkx 33 ?_
  all_goals(refine wpAnyH_done (by kernel_rfl) ?_ _)
  all_goals(obtain⟨-,-,-,-,-,-,-,-,-,-,-,hE⟩:=hHeld;go_wp2_with fail;go_ret)
  all_goals
    refine⟨congrArg (fun x=>Ending.returned (.bool x)) ?_,hE⟩
    have h1:=HR.out
    have h2:=HT.out
    have h5:=H5.out
    clear HLG
    rw[Bool.eq_iff_iff,h1]
    simp only[Bool.false_eq_true,reduceCtorEq,false_iff,iff_true,true_iff,iff_false,decide_eq_true_eq,decide_eq_false_iff_not,beq_iff_eq,beq_eq_false_iff_ne] at hg1 hg2 hg3 hg4 h2 ⊢
    first
      | (rintro⟨hh0,hh1,hh2,hh3,hh4,hh5,-⟩;first|exact hok hh0|omega)
      | (rw[h5];exact⟨fun z=>⟨hok,by omega,by omega,by omega,by omega,by omega,z⟩,fun z=>z.2.2.2.2.2.2⟩)
theorem wright_any (p:Pol) (s:St) (a:Option Addr) (n c:Nat) (w:World) (h:LogAt w a n c s.log) :
    Calls Tryz.prog 105 #[p.v,s.v a n c] w fun e w'=>e=.returned (.bool (decide (rightL p s)))∧Below w.heap.size w w':=by
  refine wright_walk p.kind p.limit p.period p.burst p.cap p.opn s.at_ s.level s.held a n c s.log w h _ ?_
  rw[decide_eq_true_eq]
  unfold rightL
  rw[h.1]
/-- A state with a log of one's own. -/
def StOwn (s:St) (base:Nat) (e:Ending) (w':World):Prop:=∃ (v:Value) (m:Nat),e=.returned (.agg #[.int .i64 s.at_,.int .i64 s.level,.int .i64 s.held,v])∧OwnLog w' base v m s.log
theorem live_drop {period t:Int} {L:List (Int × Int)} {k:Nat} (hk:k<L.length) (h:live period t L=live period t (L.drop k)) :
    (t - (L.getD k (0,0)).1<period→live period t L=L.drop k)∧(¬ t - (L.getD k (0,0)).1<period→live period t L=live period t (L.drop (k+1))):=by
  rw[drop_getD L k hk] at h
  constructor
  · intro h1
    rw[h,drop_getD L k hk]
    show(if _ then _ else _)=_
    rw[if_pos h1]
  · intro h1
    rw[h]
    show(if _ then _ else _)=_
    rw[if_neg h1]

theorem wadv_some (p:Pol) (s:St) (bb off:Nat) (n c:Nat) (now:Int) (w:World) (h:rightL p s) (hlog:LogAt w (some ⟨bb,off,none⟩) n c s.log) (hn0:0<n):Calls Tryz.prog 106 #[p.v,s.v (some ⟨bb,off,none⟩) n c,.int .i64 now] w fun e w'=>StOwn (advL p s now) w.heap.size e w'∧Below w.heap.size w w':=by
  have hrt:=fun W hW=>wright_any p s (some ⟨bb,off,none⟩) n c W hW
  unfold advL
  rw[if_pos h]
  rw[decide_eq_true h] at hrt
  have HLOG:=Go.Lib.hid hlog
  obtain⟨hok,r1,r2,r3,r4,r5,r6,r7,r8⟩:=h
  have hall:=risen_all r6
  have hcr:=clampT_range now
  have hcl:=clamp_any now
  obtain⟨q0,q1,q2,q3,q4,q5,q6,q7⟩:=hok
  have hlen:=hlog.1
  have hcl2:∀ j,j<n→w.cell? ⟨bb,off+j*2,none⟩=some (.int .i64 (s.log.getD j (0,0)).1)∧w.cell? ⟨bb,off+j*2+1,none⟩=some (.int .i64 (s.log.getD j (0,0)).2):=fun j hj=>by
    obtain⟨b1,o1,e1,e2⟩:=hlog.2.2.2 j hj
    injection e1 with e1
    injection e1 with e3 e4
    subst e3 e4
    exact e2
  have hnc:=hlog.2.1
  obtain⟨k,l,d,b,cc,o⟩:=p
  obtain⟨at_,level,held,L⟩:=s
  unfold St.v Pol.v at *
  dsimp only at *
  generalize hCC:clampT now=C at *
  have hmx:(if at_<C then C else at_)=up at_ C:=rfl
  have hTr:at_≤up at_ C∧up at_ C≤9007199254740992:=by unfold up;split <;> omega
  generalize hTT:up at_ C=T at *
  have hent:∀ j,j<n→0≤(L.getD j (0,0)).1∧(L.getD j (0,0)).1≤at_:=fun j hj=>by
    have hjl:j<L.length:=by omega
    have h1:L.getD j (0,0) ∈ L:=by rw[List.getD_eq_getElem?_getD,List.getElem?_eq_getElem hjl];exact List.getElem_mem hjl
    exact(hall _ h1).2.2
  have HX:=Go.Lib.hid (And.intro hent (And.intro hcl2 (And.intro hlen (And.intro hnc (And.intro hTr (And.intro r7 q6))))))
  have HRT:=Go.Lib.hid hrt
  have HCL:=Go.Lib.hid hcl
  clear hrt hcl hall hcr hlog hcl2 hlen hnc hTr hent hCC hTT r1 r2 r3 r4 r5 r6 r7 r8 q0 q1 q2 q3 q4 q5 q6 q7
  go_enter Tryz.func106,Tryz.ntmps106
  go_wp2_with go_step3
  refine(HRT.out _ (log_bl HLOG.out k3)).mono ?_
  rintro e w1 ⟨rfl,hb⟩
  have hB:Below w.heap.size w w1:=bl_then k3 hb
  obtain⟨c0,c1,c2,c3,c4,c5⟩:=b6 (w.heap.size) k l d b cc o hb
  have c6:=bl_cell (v:=.int .i64 at_) hb (show World.cell? _ ⟨w.heap.size+1,0,none⟩=_ by go_simp)
  have c7:=bl_cell (v:=.int .i64 level) hb (show World.cell? _ ⟨w.heap.size+1,1,none⟩=_ by go_simp)
  have c8:=bl_cell (v:=.int .i64 held) hb (show World.cell? _ ⟨w.heap.size+1,2,none⟩=_ by go_simp)
  have c9:=bl_cell (v:=.slice (some ⟨bb,off,none⟩) n c) hb (show World.cell? _ ⟨w.heap.size+1,3,none⟩=_ by go_simp)
  have hR:ResB w1 (w.heap.size+1+1):=res_bl (res_new _ _ _ _ _ _ (by simp)) hb
  clear hb HRT
  go_wp2_with go_step3
  refine wp_region_held_drew (S:=fun w'=>P6 w' (w.heap.size) k l d b cc o (S4 w' (w.heap.size+1) at_ level held (some ⟨bb,off,none⟩) n c (ResB w' (w.heap.size+1+1)∧Below w.heap.size w w'))) (by kernel_rfl) ?_ (fun hHeld=>?_)
  · exact⟨c0,c1,c2,c3,c4,c5,c6,c7,c8,c9,hR,bl_drew hB⟩
  try simp only[Act.put,List.setIfInBounds_toArray,List.set_cons_zero,List.set_cons_succ]
  all_goals refine tkx 0 ?_
  all_goals refine tkx 1 ?_
  all_goals refine tkx 2 ?_
  all_goals((refine callH (i:=3) rfl hHeld (fun W hW K hK=>?_);clear hHeld;(try dsimp only at hW);go_simp;refine(HCL.out _).mono ?_;rintro e w1 ⟨rfl,rfl⟩;go_wp2_with fail;refine hK.out _ _ ?_ (fun hHeld=>?_);(focus((try dsimp only);exact hW));clear hK K;try simp only[Act.put,List.setIfInBounds_toArray,List.set_cons_zero,List.set_cons_succ]))
  all_goals refine tkx 4 ?_
  all_goals refine tkx 5 ?_
  all_goals(refine wpAnyH_done (by kernel_rfl) ?_ _)
  clear hB hR c0 c1 c2 c3 c4 c5 c6 c7 c8 c9
  refine then_abs (F:=fun w'=>P6 w' (w.heap.size) k l d b cc o (S4 w' (w.heap.size+1) at_ level held (some ⟨bb,off,none⟩) n c (ResB w' (w.heap.size+1+1)∧Below w.heap.size w w'))) hHeld ?_
  clear hHeld
  rintro W ⟨c0,c1,c2,c3,c4,c5,c6,c7,c8,c9,hR,hB⟩
  go_wp2_with go_step3
  go_loopw [8] (fun s8 wr=>∃ j:Nat,s8=.int .i64 j∧j≤n∧Hid (Below W.heap.size W wr∧live d T L=live d T (L.drop j)))
    (fun s8 _=>n - (intOf s8).toNat)
  case atStart=>exact⟨0,rfl,Nat.zero_le _,⟨Below.refl _ _,by simp⟩⟩
  case round =>
    obtain⟨j,rfl,hj,H⟩:=hrel
    obtain⟨hb,hlv⟩:=H.out
    have d0:=bl_cell hb c0
    have d1:=bl_cell hb c1
    have d2:=bl_cell hb c2
    have d3:=bl_cell hb c3
    have d4:=bl_cell hb c4
    have d5:=bl_cell hb c5
    have d6:=bl_cell hb c6
    have d7:=bl_cell hb c7
    have d8:=bl_cell hb c8
    have d9:=bl_cell hb c9
    have dR:=res_bl hR hb
    have dB:Below w.heap.size w wr:=hB.trans (hb.mono hB.size)
    obtain⟨hent,hcl2,hlen,hnc,hTr,hcc,hdd⟩:=HX.out
    by_cases hjn:j<n
    · have he:=hent j hjn
      have g1:=bl_cell dB (hcl2 j hjn).1
      have hld:=live_drop (k:=j) (by omega) hlv
      generalize (L.getD j (0,0)).1=E at g1 he hld
      have hw:IntKind.i64.wrap (T - E)=T - E:=IntWalk.i64_in _ (by omega)
      have hk0:(0:Int)≤(j:Int):=by omega
      have hk1:(j:Int)<(n:Int):=by omega
      have hj1:j+1≤n:=hjn
      have hms:n - (j+1)<n - j:=by omega
      have hnm:(n:Int)≤9223372036854775807:=by omega
      obtain⟨g,hg⟩:∃ g,decide (T - E<d)=g:=⟨_,rfl⟩
      have HLD:=Go.Lib.hid hld
      clear hld hlv H he hent hcl2 hlen hnc hTr hcc hdd
      go_wp2_with go_step3
      refine wp_region_held_drew (S:=fun w'=>P6 w' (w.heap.size) k l d b cc o (S4 w' (w.heap.size+1) at_ level held (some ⟨bb,off,none⟩) n c (w'.cell? ⟨bb,off+j*2,none⟩=some (.int .i64 E)∧ResB w' (w.heap.size+1+1)∧Below w.heap.size w w'))) (by kernel_rfl) ?_ (fun hHeld=>?_)
      · exact⟨d0,d1,d2,d3,d4,d5,d6,d7,d8,d9,g1,dR,bl_drew dB⟩
      try simp only[Act.put,List.setIfInBounds_toArray,List.set_cons_zero,List.set_cons_succ]
      refine tkx 0 ?_
      refine tkx 1 ?_
      refine tkx 2 ?_
      refine tkx 3 ?_
      refine tkx 4 ?_
      refine tkx 5 ?_
      refine tkx 6 ?_
      refine tkx 7 ?_
      refine tkx 8 ?_
      refine tkx 9 ?_
      refine tkx 10 ?_
      refine wpAnyH_done (by kernel_rfl) ?_ _
      clear hHeld
      have hbd:Below W.heap.size W wr.drew:=hb.drew
      cases g
      · go_wp2_with go_step3
        go_roundw
        case rel=>exact⟨j+1,by go_num,hj1,⟨hbd,HLD.out.2 (by simpa using hg)⟩⟩
        case measure=>(simp[intOf];first|exact hms|omega)
      · have hdrop:=HLD.out.1 (by simpa using hg)
        go_wp2_with go_step3
        refine wp_region_held_drew (S:=fun w'=>P6 w' (w.heap.size) k l d b cc o (S4 w' (w.heap.size+1) at_ level held (some ⟨bb,off,none⟩) n c (ResB w' (w.heap.size+1+1)∧Below w.heap.size w w'))) (by kernel_rfl) ?_ (fun hHeld=>?_)
        · first|exact⟨d0,d1,d2,d3,d4,d5,d6,d7,d8,d9,dR,bl_drew dB⟩|exact⟨d0,d1,d2,d3,d4,d5,d6,d7,d8,d9,dR,bl_drew (bl_drew dB)⟩
        try simp only[Act.put,List.setIfInBounds_toArray,List.set_cons_zero,List.set_cons_succ]
        have s0:(0:Int)≤(j:Int):=by omega
        have s1:(j:Int)≤(n:Int):=by omega
        have s2:(n:Int)≤(c:Int):=by have:=HX.out.2.2.2.1;omega
        have hcj:¬ c=j:=by omega
        have hnj:IntKind.i64.wrap ((n:Int) - (j:Int))=(n:Int) - (j:Int):=IntWalk.i64_in _ (by omega)
        refine tkx 0 ?_
        refine tkx 1 ?_
        refine tkx 2 ?_
        refine tkx 3 ?_
        refine tkx 4 ?_
        refine tkx 5 ?_
        refine tkx 6 ?_
        (refine callH (i:=7) rfl hHeld (fun W hW K hK=>?_);clear hHeld;(try dsimp only at hW);have hB9:=hW.2.2.2.2.2.2.2.2.2.2.2;have hr9:=res_lt hW.2.2.2.2.2.2.2.2.2.2.1;go_simp;refine(clone_any ⟨bb,off+j*2,none⟩ _ _ (L.drop j) _ (by rw[List.length_drop];have:=HX.out.2.2.1;omega) (by have:=HX.out.2.2.2.2.2.1;have:=HX.out.2.2.2.2.2.2;have:=HX.out.2.2.1;omega) (cells_drop (k:=j) HX.out.2.2.1 (fun i hi=>⟨bl_cell hB9 (HX.out.2.1 i hi).1,bl_cell hB9 (HX.out.2.1 i hi).2⟩))).mono ?_;rintro e w9 ⟨v9,rfl,hown,hb⟩;obtain⟨a9,c9,rfl,-⟩:=own_log hown;go_wp2_with fail;refine hK.out _ _ ?_ (fun hHeld=>?_);(focus((try dsimp only);(obtain⟨h0,h1,h2,h3,h4,h5,h6,h7,h8,h9,hr',hB'⟩:=hW;exact⟨bl_cell hb h0,bl_cell hb h1,bl_cell hb h2,bl_cell hb h3,bl_cell hb h4,bl_cell hb h5,bl_cell hb h6,bl_cell hb h7,bl_cell hb h8,bl_cell hb h9,res_bl hr' hb,bl_then hB' hb⟩)));clear hK K;try simp only[Act.put,List.setIfInBounds_toArray,List.set_cons_zero,List.set_cons_succ])
        refine tkx 8 ?_
        (refine callC (i:=9) rfl (fun K hK=>?_);obtain⟨h0,h1,h2,h3,h4,h5,h6,h7,h8,h9,hr',hB'⟩:=hHeld;obtain⟨f0,f1,f2,f3,u0,u1,u2,u3,i0,i1,i2,i3⟩:=res_all hr';go_simp;refine hK.out _ _ ?_ (fun hHeld=>?_);(focus((try dsimp only);(have e0:w.heap.size+1+1≠w.heap.size:=(by omega);have e1:w.heap.size+1+1≠w.heap.size+1:=(by omega);exact⟨far4 h0 e0,far4 h1 e0,far4 h2 e0,far4 h3 e0,far4 h4 e0,far4 h5 e0,far4 h6 e1,far4 h7 e1,far4 h8 e1,far4 h9 e1,res4 hr',bl4 hB' (by omega)⟩)));clear hK K;try simp only[Act.put,List.setIfInBounds_toArray,List.set_cons_zero,List.set_cons_succ])
        refine wpAnyH_done (by kernel_rfl) ?_ _
        obtain⟨-,-,-,-,-,-,-,-,-,-,-,hE⟩:=hHeld
        repeat' (first|go_skip|go_guarded|go_step|go_step3|go_upon)
        (try simp only[Exit.inBlock,Exit.then,Exit.noGoto_ret])
        refine bodyPost_ret (results_state rfl _ _ (by rfl) (set4r hr')) rfl ⟨⟨_,_,rfl,by dsimp only;rw[hdrop];exact own_mono (own_set4 hown hr9) hB9.size⟩,hE⟩
    · have hje:n=j:=by omega
      subst hje
      have hdrop:live d T L=L.drop n:=by rw[hlv,List.drop_eq_nil_of_le (by omega)];rfl
      go_wp2_with go_step3
      refine wp_region_held_drew (S:=fun w'=>P6 w' (w.heap.size) k l d b cc o (S4 w' (w.heap.size+1) at_ level held (some ⟨bb,off,none⟩) n c (ResB w' (w.heap.size+1+1)∧Below w.heap.size w w'))) (by kernel_rfl) ?_ (fun hHeld=>?_)
      · first|exact⟨d0,d1,d2,d3,d4,d5,d6,d7,d8,d9,dR,bl_drew dB⟩|exact⟨d0,d1,d2,d3,d4,d5,d6,d7,d8,d9,dR,bl_drew (bl_drew dB)⟩
      try simp only[Act.put,List.setIfInBounds_toArray,List.set_cons_zero,List.set_cons_succ]
      have s0:(0:Int)≤(n:Int):=by omega
      have s1:(n:Int)≤(n:Int):=by omega
      have s2:(n:Int)≤(c:Int):=by have:=HX.out.2.2.2.1;omega
      obtain⟨ad,had⟩:∃ ad,(if c=n then some (⟨bb,off,none⟩:Addr) else some ⟨bb,off+n*2,none⟩)=some ad:=by split <;> exact⟨_,rfl⟩
      refine tkx 0 ?_
      refine tkx 1 ?_
      refine tkx 2 ?_
      refine tkx 3 ?_
      refine tkx 4 ?_
      refine tkx 5 ?_
      refine tkx 6 ?_
      (refine callH (i:=7) rfl hHeld (fun W hW K hK=>?_);clear hHeld;(try dsimp only at hW);have hB9:=hW.2.2.2.2.2.2.2.2.2.2.2;have hr9:=res_lt hW.2.2.2.2.2.2.2.2.2.2.1;go_simp;refine(clone_any ad _ _ (L.drop n) _ (by rw[List.length_drop];have:=HX.out.2.2.1;omega) (by have:=HX.out.2.2.2.2.2.1;have:=HX.out.2.2.2.2.2.2;have:=HX.out.2.2.1;omega) (fun j u hj=>by rw[List.drop_eq_nil_of_le (by have:=HX.out.2.2.1;omega)] at hj;simp[cellsL] at hj)).mono ?_;rintro e w9 ⟨v9,rfl,hown,hb⟩;obtain⟨a9,c9,rfl,-⟩:=own_log hown;go_wp2_with fail;refine hK.out _ _ ?_ (fun hHeld=>?_);(focus((try dsimp only);(obtain⟨h0,h1,h2,h3,h4,h5,h6,h7,h8,h9,hr',hB'⟩:=hW;exact⟨bl_cell hb h0,bl_cell hb h1,bl_cell hb h2,bl_cell hb h3,bl_cell hb h4,bl_cell hb h5,bl_cell hb h6,bl_cell hb h7,bl_cell hb h8,bl_cell hb h9,res_bl hr' hb,bl_then hB' hb⟩)));clear hK K;try simp only[Act.put,List.setIfInBounds_toArray,List.set_cons_zero,List.set_cons_succ])
      refine tkx 8 ?_
      (refine callC (i:=9) rfl (fun K hK=>?_);obtain⟨h0,h1,h2,h3,h4,h5,h6,h7,h8,h9,hr',hB'⟩:=hHeld;obtain⟨f0,f1,f2,f3,u0,u1,u2,u3,i0,i1,i2,i3⟩:=res_all hr';go_simp;refine hK.out _ _ ?_ (fun hHeld=>?_);(focus((try dsimp only);(have e0:w.heap.size+1+1≠w.heap.size:=(by omega);have e1:w.heap.size+1+1≠w.heap.size+1:=(by omega);exact⟨far4 h0 e0,far4 h1 e0,far4 h2 e0,far4 h3 e0,far4 h4 e0,far4 h5 e0,far4 h6 e1,far4 h7 e1,far4 h8 e1,far4 h9 e1,res4 hr',bl4 hB' (by omega)⟩)));clear hK K;try simp only[Act.put,List.setIfInBounds_toArray,List.set_cons_zero,List.set_cons_succ])
      refine wpAnyH_done (by kernel_rfl) ?_ _
      obtain⟨-,-,-,-,-,-,-,-,-,-,-,hE⟩:=hHeld
      repeat' (first|go_skip|go_guarded|go_step|go_step3|go_upon)
      (try simp only[Exit.inBlock,Exit.then,Exit.noGoto_ret])
      refine bodyPost_ret (results_state rfl _ _ (by rfl) (set4r hr')) rfl ⟨⟨_,_,rfl,by dsimp only;rw[hdrop];exact own_mono (own_set4 hown hr9) hB9.size⟩,hE⟩
def NotePost (p:Pol) (s:St) (cost:Int) (base:Nat) (w:World) (e:Ending) (w':World):Prop:=∃ (v:Value) (m:Nat),e=.returned (.agg #[.int .i64 s.at_,.int .i64 s.level,.int .i64 s.held,v])∧OwnLog w' base v m (noted p s cost).log∧Below base w w'
theorem blB4 {B:Nat} {w W:World} (h:Below B w W) {b:Nat} (hb:B≤b) {v0 v1 v2 v3:Value} :
    Below B w ((((W.setCell ⟨b,0,none⟩ v0).setCell ⟨b,1,none⟩ v1).setCell ⟨b,2,none⟩ v2).setCell ⟨b,3,none⟩ v3):=(((h.setCell hb v0).setCell hb v1).setCell hb v2).setCell hb v3
theorem own_far {w:World} {base:Nat} {v:Value} {n:Nat} {L:List (Int × Int)} (h:OwnLog w base v n L) (a:Addr) (u:Value) (hne:∀ g,v.ownBlock=some g→g≠a.block):OwnLog (w.setCell a u) base v n L:=by
  obtain⟨hl,h⟩:=h
  refine⟨hl,?_⟩
  rcases h with h|⟨g,cap,cur,rfl,h2,h3,h4⟩
  · exact .inl h
  · refine .inr ⟨g,cap,cur,rfl,h2,?_,h4⟩
    rw[Below.heap_setCell _ _ _ _ (hne g rfl)]
    exact h3
theorem own_far4 {w:World} {base b:Nat} {v v0 v1 v2 v3:Value} {n:Nat} {L:List (Int × Int)} (h:OwnLog w base v n L) (hne:∀ g,v.ownBlock=some g→g≠b) :
    OwnLog ((((w.setCell ⟨b,0,none⟩ v0).setCell ⟨b,1,none⟩ v1).setCell ⟨b,2,none⟩ v2).setCell ⟨b,3,none⟩ v3) base v n L:=own_far (own_far (own_far (own_far h _ _ hne) _ _ hne) _ _ hne) _ _ hne

theorem note_write (k l d b cc:Int) (o:Bool) (at_ level held cost:Int) (g m cap:Nat) (L:List (Int × Int)) (base:Nat) (w:World) (hb0:base≤w.heap.size) (hown:OwnLog w base (.slice (some ⟨g,0,none⟩) (m+1) cap) (m+1) L) (hm:m<1000)
    (E1 E2:Int) (hE1:(L.getD m (0,0)).1=E1) (hE2:(L.getD m (0,0)).2=E2) (hbd:0≤E2∧E2≤1048576∧0≤cost∧cost≤1048576) (hin:E1=at_∨¬ E1=at_∧(m:Int)+1=cc) :
    Calls Tryz.prog 156 #[.agg #[.int .i64 k,.int .i64 l,.int .i64 d,.int .i64 b,.int .i64 cc,.bool o],.agg #[.int .i64 at_,.int .i64 level,.int .i64 held,.slice (some ⟨g,0,none⟩) (m+1) cap],.int .i64 cost] w
      (NotePost ⟨k,l,d,b,cc,o⟩ ⟨at_,level,held,L⟩ cost base w):=by
  have hlen:L.length=m+1:=by have:=hown.1;rw[cellsL_len] at this;omega
  have hinto:into (decide ((L.length:Int)=cc)) at_ L:=by
    refine⟨by intro h;rw[h] at hlen;simp at hlen,?_⟩
    rw[hlen,Nat.add_sub_cancel,hE1]
    rcases hin with h|⟨-,h⟩
    · exact .inl h
    · exact .inr (by rw[decide_eq_true_eq];omega)
  have hnote:=(note_into (decide ((L.length:Int)=cc)) at_ cost L hinto)
  rw[hlen,Nat.add_sub_cancel,hE2] at hnote
  rw[show((m+1:Nat):Int)=(m:Int)+1 by omega] at hnote
  have hg2:=cellsL_get L m (by omega)
  rw[hE1,hE2] at hg2
  have hbg:=World.ownsRow.lt hown g rfl
  have HO:=Go.Lib.hid hown
  have HN:=Go.Lib.hid hnote
  have HLN:=Go.Lib.hid hlen
  have hw1:IntKind.i64.wrap (m:Int)=(m:Int):=IntWalk.i64_in _ (by omega)
  have hw2:IntKind.i64.wrap (E2+cost)=E2+cost:=IntWalk.i64_in _ (by omega)
  have HX:=Go.Lib.hid (And.intro hbg hb0)
  have HG:=Go.Lib.hid hg2
  clear hinto hnote hlen hbd hE1 hE2 hg2 hbg hown
  go_enter Tryz.func156,Tryz.ntmps156
  go_wp2_with fail
  refine wp_abs (S0:=fun w'=>P6 w' (w.heap.size) k l d b cc o (S4 w' (w.heap.size+1) at_ level held (some ⟨g,0,none⟩) (m+1) cap (ResB w' (w.heap.size+1+1)∧OwnLog w' base (.slice (some ⟨g,0,none⟩) (m+1) cap) (m+1) L∧Below w.heap.size w w'))) ⟨by go_simp,by go_simp,by go_simp,by go_simp,by go_simp,by go_simp,by go_simp,by go_simp,by go_simp,by go_simp,res_new _ _ _ _ _ _ (by simp),World.ownsRow.alloc (World.ownsRow.alloc (World.ownsRow.alloc HO.out _) _) _,k3⟩ ?_
  rintro W ⟨c0,c1,c2,c3,c4,c5,c6,c7,c8,c9,hR,hO,hB⟩
  have x1:W.cell? ⟨g,m*2,none⟩=some (.int .i64 E1):=by rw[World.ownsRow.cellAt hO (m*2) (by omega)];exact HG.out.1
  have x2:W.cell? ⟨g,m*2+1,none⟩=some (.int .i64 E2):=by rw[World.ownsRow.cellAt hO (m*2+1) (by omega)];exact HG.out.2
  have k0:(0:Int)≤(m:Int):=by omega
  have k1:(m:Int)<(m:Int)+1:=by omega
  have k2:(0:Int)<(m:Int)+1:=by omega
  have hsame:(decide (E1=at_)=true∧True)∨(decide (E1=at_)=false∧decide ((m:Int)+1=cc)=true):=by
    rcases hin with h|⟨h,h2⟩
    · exact .inl ⟨decide_eq_true h,trivial⟩
    · exact .inr ⟨decide_eq_false h,decide_eq_true h2⟩
  clear hin
  rcases hsame with⟨z1,-⟩|⟨z1,z2⟩
  · have z1':(E1 == at_)=true:=z1
    refine wp_region_held_drew (S:=fun w'=>P6 w' (w.heap.size) k l d b cc o (S4 w' (w.heap.size+1) at_ level held (some ⟨g,0,none⟩) (m+1) cap (w'.cell? ⟨g,m*2,none⟩=some (.int .i64 E1)∧w'.cell? ⟨g,m*2+1,none⟩=some (.int .i64 E2)∧ResB w' (w.heap.size+1+1)∧Below w.heap.size w w'))) (by kernel_rfl) ?_ (fun hHeld=>?_)
    · exact⟨c0,c1,c2,c3,c4,c5,c6,c7,c8,c9,x1,x2,hR,bl_drew hB⟩
    try simp only[Act.put,List.setIfInBounds_toArray,List.set_cons_zero,List.set_cons_succ]
    refine tkx 0 ?_
    refine tkx 1 ?_
    refine tkx 2 ?_
    first|refine tkx 3 ?_|refine tqx 3 ?_
    first|refine tkx 4 ?_|refine tqx 4 ?_
    first|refine tkx 5 ?_|refine tqx 5 ?_
    first|refine tkx 6 ?_|refine tqx 6 ?_
    first|refine tkx 7 ?_|refine tqx 7 ?_
    first|refine tkx 8 ?_|refine tqx 8 ?_
    first|refine tkx 9 ?_|refine tqx 9 ?_
    first|refine tkx 10 ?_|refine tqx 10 ?_
    first|refine tkx 11 ?_|refine tqx 11 ?_
    first|refine tkx 12 ?_|refine tqx 12 ?_
    first|refine tkx 13 ?_|refine tqx 13 ?_
    first|refine tkx 14 ?_|refine tqx 14 ?_
    first|refine tkx 15 ?_|refine tqx 15 ?_
    first|refine tkx 16 ?_|refine tqx 16 ?_
    first|refine tkx 17 ?_|refine tqx 17 ?_
    first|refine tkx 18 ?_|refine tqx 18 ?_
    refine tkx 19 ?_
    refine wpAnyH_done (by kernel_rfl) ?_ _
    clear hHeld
    refine then_abs (F:=fun X=>OwnLog X base (.slice (some ⟨g,0,none⟩) (m+1) cap) (m+1) L∧P6 X (w.heap.size) k l d b cc o (S4 X (w.heap.size+1) at_ level held (some ⟨g,0,none⟩) (m+1) cap (X.cell? ⟨g,m*2,none⟩=some (.int .i64 E1)∧X.cell? ⟨g,m*2+1,none⟩=some (.int .i64 E2)∧ResB X (w.heap.size+1+1)∧Below w.heap.size w X))) ⟨hO,c0,c1,c2,c3,c4,c5,c6,c7,c8,c9,x1,x2,hR,bl_drew hB⟩ ?_
    clear hO hR hB x1 x2 c0 c1 c2 c3 c4 c5 c6 c7 c8 c9
    rintro X ⟨hO,c0,c1,c2,c3,c4,c5,c6,c7,c8,c9,x1,x2,hR,hB⟩
    go_wp2_with fail
    have hBb:Below base w X:=hB.mono HX.out.2
    have y0:=World.ownsRow.frozenAt hO (m*2)
    have y1:=World.ownsRow.frozenAt hO (m*2+1)
    refine wp_region_held_drew (S:=fun w'=>P6 w' (w.heap.size) k l d b cc o (S4 w' (w.heap.size+1) at_ level held (some ⟨g,0,none⟩) (m+1) cap (ResB w' (w.heap.size+1+1)∧Below base w w'))) (by kernel_rfl) ?_ (fun hHeld=>?_)
    · exact⟨c0,c1,c2,c3,c4,c5,c6,c7,c8,c9,hR,hBb.drew⟩
    try simp only[Act.put,List.setIfInBounds_toArray,List.set_cons_zero,List.set_cons_succ]
    refine wpAnyH_abs (F:=fun X=>OwnLog X base (.slice (some ⟨g,0,none⟩) (m+1) cap) (m+1) L∧X.cell? ⟨g,m*2,none⟩=some (.int .i64 E1)∧X.cell? ⟨g,m*2+1,none⟩=some (.int .i64 E2)) hHeld ⟨hO,x1,x2⟩ (fun Y hHeld hF=>?_)
    clear hO hR hB hBb x1 x2 y0 y1 c0 c1 c2 c3 c4 c5 c6 c7 c8 c9
    obtain⟨hO,x1,x2⟩:=hF
    have y0:=World.ownsRow.frozenAt hO (m*2)
    have y1:=World.ownsRow.frozenAt hO (m*2+1)
    refine tkx 0 ?_
    refine tkx 1 ?_
    refine tkx 2 ?_
    refine tkx 3 ?_
    refine tkx 4 ?_
    refine tkx 5 ?_
    refine tkx 6 ?_
    refine tkx 7 ?_
    refine tkx 8 ?_
    refine tkx 9 ?_
    refine tkx 10 ?_
    refine tkx 11 ?_
    refine tkx 13 ?_
    (refine callC (i:=12) rfl (fun K hK=>?_);go_simp;refine hK.out _ _ ?_ (fun hHeld'=>?_);(focus((try dsimp only);exact hHeld));clear hHeld hK K;rename _=>hHeld;try simp only[Act.put,List.setIfInBounds_toArray,List.set_cons_zero,List.set_cons_succ])
    refine tkx 14 ?_
    refine tkx 15 ?_
    refine tkx 16 ?_
    (refine callC (i:=17) rfl (fun K hK=>?_);obtain⟨h0,h1,h2,h3,h4,h5,h6,h7,h8,h9,hr',hB'⟩:=hHeld;go_simp;refine hK.out _ _ ?_ (fun hHeld=>?_);(focus((try dsimp only);(have hgg:=HX.out.1.2;have hgb:=HX.out.1.1;have e0:g≠w.heap.size:=(by omega);have e1:g≠w.heap.size+1:=(by omega);exact⟨far_set (far_set h0 _ _ e0) _ _ e0,far_set (far_set h1 _ _ e0) _ _ e0,far_set (far_set h2 _ _ e0) _ _ e0,far_set (far_set h3 _ _ e0) _ _ e0,far_set (far_set h4 _ _ e0) _ _ e0,far_set (far_set h5 _ _ e0) _ _ e0,far_set (far_set h6 _ _ e1) _ _ e1,far_set (far_set h7 _ _ e1) _ _ e1,far_set (far_set h8 _ _ e1) _ _ e1,far_set (far_set h9 _ _ e1) _ _ e1,res_set (res_set hr' _ _) _ _,(hB'.setCell hgb _).setCell hgb _⟩)));clear hK K;try simp only[Act.put,List.setIfInBounds_toArray,List.set_cons_zero,List.set_cons_succ])
    refine wpAnyH_done (by kernel_rfl) ?_ _
    have hO2:=(World.ownsRow.stored (World.ownsRow.stored hO (m*2) (.int .i64 at_)).1 (m*2+1) (.int .i64 (E2+cost))).1
    rw[← HN.out.1] at hO2
    refine then_abs (F:=fun X=>World.ownsRow X base 82 2 (.slice (some ⟨g,0,none⟩) (m+1) cap) (m+1) (cellsL (noteL (decide ((m:Int)+1=cc)) at_ cost L))∧P6 X (w.heap.size) k l d b cc o (S4 X (w.heap.size+1) at_ level held (some ⟨g,0,none⟩) (m+1) cap (ResB X (w.heap.size+1+1)∧Below base w X))) ⟨hO2,hHeld⟩ ?_
    clear hO hO2 hHeld x1 x2 y0 y1 hr' hB' h0 h1 h2 h3 h4 h5 h6 h7 h8 h9
    rintro X ⟨hO,c0,c1,c2,c3,c4,c5,c6,c7,c8,c9,hR,hB⟩
    obtain⟨f0,f1,f2,f3,u0,u1,u2,u3,i0,i1,i2,i3⟩:=res_all hR
    repeat' (first|go_skip|go_guarded|go_step|go_upon)
    (try simp only[Exit.inBlock,Exit.then])
    refine bodyPost_ret (results_state rfl _ _ (by rfl) (set4r hR)) rfl ⟨_,m+1,rfl,by show OwnLog _ _ _ _ (noteL (decide ((L.length:Int)=cc)) at_ cost L);rw[show((L.length:Nat):Int)=(m:Int)+1 by have:=HLN.out;omega];exact own_far4 hO (fun gg hgg=>by have h8:=HX.out.1.2;injection hgg with hgg;rw[← hgg];dsimp only;omega),blB4 hB (by have:=HX.out.2;omega)⟩
  · have z1':(E1 == at_)=false:=z1
    have z2':((m:Int)+1 == cc)=true:=z2
    refine wp_region_held_drew (S:=fun w'=>P6 w' (w.heap.size) k l d b cc o (S4 w' (w.heap.size+1) at_ level held (some ⟨g,0,none⟩) (m+1) cap (w'.cell? ⟨g,m*2,none⟩=some (.int .i64 E1)∧w'.cell? ⟨g,m*2+1,none⟩=some (.int .i64 E2)∧ResB w' (w.heap.size+1+1)∧Below w.heap.size w w'))) (by kernel_rfl) ?_ (fun hHeld=>?_)
    · exact⟨c0,c1,c2,c3,c4,c5,c6,c7,c8,c9,x1,x2,hR,bl_drew hB⟩
    try simp only[Act.put,List.setIfInBounds_toArray,List.set_cons_zero,List.set_cons_succ]
    refine tkx 0 ?_
    refine tkx 1 ?_
    refine tkx 2 ?_
    first|refine tkx 3 ?_|refine tqx 3 ?_
    first|refine tkx 4 ?_|refine tqx 4 ?_
    first|refine tkx 5 ?_|refine tqx 5 ?_
    first|refine tkx 6 ?_|refine tqx 6 ?_
    first|refine tkx 7 ?_|refine tqx 7 ?_
    first|refine tkx 8 ?_|refine tqx 8 ?_
    first|refine tkx 9 ?_|refine tqx 9 ?_
    first|refine tkx 10 ?_|refine tqx 10 ?_
    first|refine tkx 11 ?_|refine tqx 11 ?_
    first|refine tkx 12 ?_|refine tqx 12 ?_
    first|refine tkx 13 ?_|refine tqx 13 ?_
    first|refine tkx 14 ?_|refine tqx 14 ?_
    first|refine tkx 15 ?_|refine tqx 15 ?_
    first|refine tkx 16 ?_|refine tqx 16 ?_
    first|refine tkx 17 ?_|refine tqx 17 ?_
    first|refine tkx 18 ?_|refine tqx 18 ?_
    refine tkx 19 ?_
    refine wpAnyH_done (by kernel_rfl) ?_ _
    clear hHeld
    refine then_abs (F:=fun X=>OwnLog X base (.slice (some ⟨g,0,none⟩) (m+1) cap) (m+1) L∧P6 X (w.heap.size) k l d b cc o (S4 X (w.heap.size+1) at_ level held (some ⟨g,0,none⟩) (m+1) cap (X.cell? ⟨g,m*2,none⟩=some (.int .i64 E1)∧X.cell? ⟨g,m*2+1,none⟩=some (.int .i64 E2)∧ResB X (w.heap.size+1+1)∧Below w.heap.size w X))) ⟨hO,c0,c1,c2,c3,c4,c5,c6,c7,c8,c9,x1,x2,hR,bl_drew hB⟩ ?_
    clear hO hR hB x1 x2 c0 c1 c2 c3 c4 c5 c6 c7 c8 c9
    rintro X ⟨hO,c0,c1,c2,c3,c4,c5,c6,c7,c8,c9,x1,x2,hR,hB⟩
    go_wp2_with fail
    have hBb:Below base w X:=hB.mono HX.out.2
    have y0:=World.ownsRow.frozenAt hO (m*2)
    have y1:=World.ownsRow.frozenAt hO (m*2+1)
    refine wp_region_held_drew (S:=fun w'=>P6 w' (w.heap.size) k l d b cc o (S4 w' (w.heap.size+1) at_ level held (some ⟨g,0,none⟩) (m+1) cap (ResB w' (w.heap.size+1+1)∧Below base w w'))) (by kernel_rfl) ?_ (fun hHeld=>?_)
    · exact⟨c0,c1,c2,c3,c4,c5,c6,c7,c8,c9,hR,hBb.drew⟩
    try simp only[Act.put,List.setIfInBounds_toArray,List.set_cons_zero,List.set_cons_succ]
    refine wpAnyH_abs (F:=fun X=>OwnLog X base (.slice (some ⟨g,0,none⟩) (m+1) cap) (m+1) L∧X.cell? ⟨g,m*2,none⟩=some (.int .i64 E1)∧X.cell? ⟨g,m*2+1,none⟩=some (.int .i64 E2)) hHeld ⟨hO,x1,x2⟩ (fun Y hHeld hF=>?_)
    clear hO hR hB hBb x1 x2 y0 y1 c0 c1 c2 c3 c4 c5 c6 c7 c8 c9
    obtain⟨hO,x1,x2⟩:=hF
    have y0:=World.ownsRow.frozenAt hO (m*2)
    have y1:=World.ownsRow.frozenAt hO (m*2+1)
    refine tkx 0 ?_
    refine tkx 1 ?_
    refine tkx 2 ?_
    refine tkx 3 ?_
    refine tkx 4 ?_
    refine tkx 5 ?_
    refine tkx 6 ?_
    refine tkx 7 ?_
    refine tkx 8 ?_
    refine tkx 9 ?_
    refine tkx 10 ?_
    refine tkx 11 ?_
    refine tkx 13 ?_
    (refine callC (i:=12) rfl (fun K hK=>?_);go_simp;refine hK.out _ _ ?_ (fun hHeld'=>?_);(focus((try dsimp only);exact hHeld));clear hHeld hK K;rename _=>hHeld;try simp only[Act.put,List.setIfInBounds_toArray,List.set_cons_zero,List.set_cons_succ])
    refine tkx 14 ?_
    refine tkx 15 ?_
    refine tkx 16 ?_
    (refine callC (i:=17) rfl (fun K hK=>?_);obtain⟨h0,h1,h2,h3,h4,h5,h6,h7,h8,h9,hr',hB'⟩:=hHeld;go_simp;refine hK.out _ _ ?_ (fun hHeld=>?_);(focus((try dsimp only);(have hgg:=HX.out.1.2;have hgb:=HX.out.1.1;have e0:g≠w.heap.size:=(by omega);have e1:g≠w.heap.size+1:=(by omega);exact⟨far_set (far_set h0 _ _ e0) _ _ e0,far_set (far_set h1 _ _ e0) _ _ e0,far_set (far_set h2 _ _ e0) _ _ e0,far_set (far_set h3 _ _ e0) _ _ e0,far_set (far_set h4 _ _ e0) _ _ e0,far_set (far_set h5 _ _ e0) _ _ e0,far_set (far_set h6 _ _ e1) _ _ e1,far_set (far_set h7 _ _ e1) _ _ e1,far_set (far_set h8 _ _ e1) _ _ e1,far_set (far_set h9 _ _ e1) _ _ e1,res_set (res_set hr' _ _) _ _,(hB'.setCell hgb _).setCell hgb _⟩)));clear hK K;try simp only[Act.put,List.setIfInBounds_toArray,List.set_cons_zero,List.set_cons_succ])
    refine wpAnyH_done (by kernel_rfl) ?_ _
    have hO2:=(World.ownsRow.stored (World.ownsRow.stored hO (m*2) (.int .i64 at_)).1 (m*2+1) (.int .i64 (E2+cost))).1
    rw[← HN.out.1] at hO2
    refine then_abs (F:=fun X=>World.ownsRow X base 82 2 (.slice (some ⟨g,0,none⟩) (m+1) cap) (m+1) (cellsL (noteL (decide ((m:Int)+1=cc)) at_ cost L))∧P6 X (w.heap.size) k l d b cc o (S4 X (w.heap.size+1) at_ level held (some ⟨g,0,none⟩) (m+1) cap (ResB X (w.heap.size+1+1)∧Below base w X))) ⟨hO2,hHeld⟩ ?_
    clear hO hO2 hHeld x1 x2 y0 y1 hr' hB' h0 h1 h2 h3 h4 h5 h6 h7 h8 h9
    rintro X ⟨hO,c0,c1,c2,c3,c4,c5,c6,c7,c8,c9,hR,hB⟩
    obtain⟨f0,f1,f2,f3,u0,u1,u2,u3,i0,i1,i2,i3⟩:=res_all hR
    repeat' (first|go_skip|go_guarded|go_step|go_upon)
    (try simp only[Exit.inBlock,Exit.then])
    refine bodyPost_ret (results_state rfl _ _ (by rfl) (set4r hR)) rfl ⟨_,m+1,rfl,by show OwnLog _ _ _ _ (noteL (decide ((L.length:Int)=cc)) at_ cost L);rw[show((L.length:Nat):Int)=(m:Int)+1 by have:=HLN.out;omega];exact own_far4 hO (fun gg hgg=>by have h8:=HX.out.1.2;injection hgg with hgg;rw[← hgg];dsimp only;omega),blB4 hB (by have:=HX.out.2;omega)⟩
theorem grown_cell {w w':World} {row:Option Nat} {b o:Nat} {u:Value} (hg:w.grownBy w' row) (hc:w.cell? ⟨b,o,none⟩=some u) (hne:some b≠row):w'.cell? ⟨b,o,none⟩=some u:=by
  have hb:=World.block_lt_of_cell? w _ hc
  rw[← hc]
  simp only[World.cell?,hg.block b hb hne]
theorem cellsL_append (A B:List (Int × Int)):cellsL (A ++ B)=cellsL A ++ cellsL B:=by
  induction A with
  | nil=>rfl
  | cons e l ih=>simp[cellsL,ih]
/-- A state's box. -/
def BoxT (w:World) (b:Nat):Prop:=∃ cs,w.heap[b]?=some (.cells cs 26 (0,0))
theorem box_new (w:World) (cs:Array Value) {b:Nat} (hb:b=w.heap.size):BoxT (w.alloc (.cells cs 26)) b:=by subst hb;exact⟨cs,heap_alloc_new w _⟩
theorem box_alloc {w:World} {b:Nat} (h:BoxT w b) (o:Obj):BoxT (w.alloc o) b:=by
  obtain⟨cs,h⟩:=h
  have hb:b<w.heap.size:=(Array.getElem?_eq_some_iff.1 h).1
  exact⟨cs,by rw[Below.heap_alloc w o b hb];exact h⟩
theorem grown_box {w w':World} {row:Option Nat} {b:Nat} (hg:w.grownBy w' row) (h:BoxT w b) (hne:some b≠row):BoxT w' b:=by
  obtain⟨cs,h⟩:=h
  have hb:b<w.heap.size:=(Array.getElem?_eq_some_iff.1 h).1
  exact⟨cs,by rw[hg.block b hb hne];exact h⟩
theorem own_ne {w:World} {base:Nat} {v:Value} {n b:Nat} {L:List (Int × Int)} (h:OwnLog w base v n L) (hb:BoxT w b):∀ g,v.ownBlock=some g→g≠b:=by
  intro g hg e
  obtain⟨cs,hb⟩:=hb
  rcases h.2 with⟨rfl,-⟩|⟨g2,cap,cur,rfl,h2,h3,h4⟩
  · cases hg
  · injection hg with hg
    have hg:g2=g:=hg
    subst hg e
    rw[h3] at hb
    injection hb with hb
    injection hb with hb1 hb2
    exact absurd hb2 (by decide)
theorem grown_res {w w':World} {row:Option Nat} {b:Nat} (hg:w.grownBy w' row) (hr:ResB w b) (hne:some b≠row):ResB w' b:=fun i hi=>by
  have hb:=res_lt hr
  have h:=hr i hi
  simp only[World.cell?,World.frozen?,hg.block b hb hne] at h ⊢
  exact h

theorem note_zero (k l d b cc:Int) (o:Bool) (at_ level held cost:Int) (a:Option Addr) (cap:Nat) (L:List (Int × Int)) (base:Nat) (w:World) (hb0:base≤w.heap.size) (hown:OwnLog w base (.slice a 0 cap) 0 L) :
    Calls Tryz.prog 156 #[.agg #[.int .i64 k,.int .i64 l,.int .i64 d,.int .i64 b,.int .i64 cc,.bool o],.agg #[.int .i64 at_,.int .i64 level,.int .i64 held,.slice a 0 cap],.int .i64 cost] w
      (NotePost ⟨k,l,d,b,cc,o⟩ ⟨at_,level,held,L⟩ cost base w):=by
  have hlen:L.length=0:=by have:=hown.1;rw[cellsL_len] at this;omega
  have hinto:¬ into (decide ((L.length:Int)=cc)) at_ L:=by
    intro h;exact h.1 (List.length_eq_zero_iff.1 hlen)
  have hnote:=note_app (decide ((L.length:Int)=cc)) at_ cost L hinto
  have HN:=Go.Lib.hid hnote
  have hlt:=World.ownsRow.lt hown
  have HX:=Go.Lib.hid (And.intro hlt hb0)
  obtain⟨i0',hi,hz0,hz1,hz2⟩:=info_parts infoE
  have HI:=Go.Lib.hid (And.intro hi (And.intro hz0 (And.intro hz1 hz2)))
  have HO:=Go.Lib.hid hown
  clear hinto hnote hlen hown hlt hi hz0 hz1 hz2
  go_enter Tryz.func156,Tryz.ntmps156
  go_wp2_with fail
  refine wp_abs (S0:=fun w'=>P6 w' (w.heap.size) k l d b cc o (S4 w' (w.heap.size+1) at_ level held a 0 cap (ResB w' (w.heap.size+1)∧BoxT w' (w.heap.size+1)∧BoxT w' (w.heap.size+1+1)∧ResB w' (w.heap.size+1+1)∧OwnLog w' base (.slice a 0 cap) 0 L∧Below w.heap.size w w'))) ⟨by go_simp,by go_simp,by go_simp,by go_simp,by go_simp,by go_simp,by go_simp,by go_simp,by go_simp,by go_simp,res_bl (res_new (w.alloc _) _ _ _ _ _ (by simp)) k1,box_alloc (box_new (w.alloc _) _ (by simp)) _,box_new _ _ (by simp),res_new _ _ _ _ _ _ (by simp),World.ownsRow.alloc (World.ownsRow.alloc (World.ownsRow.alloc HO.out _) _) _,k3⟩ ?_
  rintro W ⟨c0,c1,c2,c3,c4,c5,c6,c7,c8,c9,hQ,hT1,hT2,hR,hO,hB⟩
  refine wp_region_held_drew (S:=fun w'=>P6 w' (w.heap.size) k l d b cc o (S4 w' (w.heap.size+1) at_ level held a 0 cap (ResB w' (w.heap.size+1)∧BoxT w' (w.heap.size+1)∧BoxT w' (w.heap.size+1+1)∧ResB w' (w.heap.size+1+1)∧Below w.heap.size w w'))) (by kernel_rfl) ?_ (fun hHeld=>?_)
  · exact⟨c0,c1,c2,c3,c4,c5,c6,c7,c8,c9,hQ,hT1,hT2,hR,bl_drew hB⟩
  try simp only[Act.put,List.setIfInBounds_toArray,List.set_cons_zero,List.set_cons_succ]
  refine tkx 0 ?_
  refine tkx 1 ?_
  refine tkx 2 ?_
  first|refine tkx 3 ?_|refine tqx 3 ?_
  first|refine tkx 4 ?_|refine tqx 4 ?_
  first|refine tkx 5 ?_|refine tqx 5 ?_
  first|refine tkx 6 ?_|refine tqx 6 ?_
  first|refine tkx 7 ?_|refine tqx 7 ?_
  first|refine tkx 8 ?_|refine tqx 8 ?_
  first|refine tkx 9 ?_|refine tqx 9 ?_
  first|refine tkx 10 ?_|refine tqx 10 ?_
  first|refine tkx 11 ?_|refine tqx 11 ?_
  first|refine tkx 12 ?_|refine tqx 12 ?_
  first|refine tkx 13 ?_|refine tqx 13 ?_
  first|refine tkx 14 ?_|refine tqx 14 ?_
  first|refine tkx 15 ?_|refine tqx 15 ?_
  first|refine tkx 16 ?_|refine tqx 16 ?_
  first|refine tkx 17 ?_|refine tqx 17 ?_
  first|refine tkx 18 ?_|refine tqx 18 ?_
  refine tkx 19 ?_
  refine wpAnyH_done (by kernel_rfl) ?_ _
  refine then_abs (F:=fun X=>OwnLog X base (.slice a 0 cap) 0 L∧P6 X (w.heap.size) k l d b cc o (S4 X (w.heap.size+1) at_ level held a 0 cap (ResB X (w.heap.size+1)∧BoxT X (w.heap.size+1)∧BoxT X (w.heap.size+1+1)∧ResB X (w.heap.size+1+1)∧Below w.heap.size w X))) ⟨hO,hHeld⟩ ?_
  clear hO hR hQ hT1 hT2 hB hHeld c0 c1 c2 c3 c4 c5 c6 c7 c8 c9 
  rintro X ⟨hO,c0,c1,c2,c3,c4,c5,c6,c7,c8,c9,hQ,hT1,hT2,hR,hB⟩
  have u22:∀ w,Sem.run Tryz.prog (underlying 24) w=.ok (TypeDesc.slice 82) w:=run_underlying undS
  have z23:∀ w,(Go.sizeOf 82).run Tryz.prog w=.ok 2 w:=by intro w;kernel_rfl
  have hq:=HX.out
  have hi:=HI.out
  go_wp2_with (at_builtin;refine wpList_append_own _ rfl _ _ 24 rfl base 82 i0' (.agg #[.int .i64 0,.int .i64 0]) 2 16 undS hi.1 hi.2.1 hi.2.2.1 hi.2.2.2 rfl (by decide) _ 0 (cellsL L) rfl ?qc0 ⟨X.heap.size,0,none⟩ 1 1 [.int .i64 at_,.int .i64 cost] rfl ?qc1 ?qc2 ?qc3 ?qc4 ?qc5 ?qc6 ?_)
  case qc0=>exact World.ownsRow.alloc hO _
  case qc1=>rfl
  case qc2=>exact World.ownsRow.cells (World.ownsRow_lit X #[.int .i64 at_,.int .i64 cost] 1 (base:=base) (size:=2) (by have:=hB.size;omega) (by simp[maxLen]) rfl) rfl
  case qc3=>intro u hu;simp at hu;rcases hu with rfl|rfl <;> rfl
  case qc4=>simp only[maxLen];omega
  case qc5=>omega
  case qc6=>have:=hB.size;rw[World.size_alloc];omega
  intro v' w1 hown hgrow hnil
  have hown2:OwnLog w1 base v' (0+1) (L ++ [(at_,cost)]):=by unfold OwnLog;rw[cellsL_append];exact hown
  clear hown hnil hO
  have hne:∀ gg,Value.ownBlock (.slice a 0 cap)=some gg→gg<w.heap.size:=fun gg hgg=>(hq.1 gg hgg).2
  have d0:=grown_cell hgrow (bl_cell (bl_alloc (bl_refl X) _) c0) (by intro he;have:=hne _ he.symm;omega)
  have d1:=grown_cell hgrow (bl_cell (bl_alloc (bl_refl X) _) c1) (by intro he;have:=hne _ he.symm;omega)
  have d2:=grown_cell hgrow (bl_cell (bl_alloc (bl_refl X) _) c2) (by intro he;have:=hne _ he.symm;omega)
  have d3:=grown_cell hgrow (bl_cell (bl_alloc (bl_refl X) _) c3) (by intro he;have:=hne _ he.symm;omega)
  have d4:=grown_cell hgrow (bl_cell (bl_alloc (bl_refl X) _) c4) (by intro he;have:=hne _ he.symm;omega)
  have d5:=grown_cell hgrow (bl_cell (bl_alloc (bl_refl X) _) c5) (by intro he;have:=hne _ he.symm;omega)
  have d6:=grown_cell hgrow (bl_cell (bl_alloc (bl_refl X) _) c6) (by intro he;have:=hne _ he.symm;omega)
  have d7:=grown_cell hgrow (bl_cell (bl_alloc (bl_refl X) _) c7) (by intro he;have:=hne _ he.symm;omega)
  have d8:=grown_cell hgrow (bl_cell (bl_alloc (bl_refl X) _) c8) (by intro he;have:=hne _ he.symm;omega)
  have d9:=grown_cell hgrow (bl_cell (bl_alloc (bl_refl X) _) c9) (by intro he;have:=hne _ he.symm;omega)
  have dQ:=grown_res hgrow (res_bl hQ (bl_alloc (bl_refl X) _)) (by intro he;have:=hne _ he.symm;omega)
  have dR:=grown_res hgrow (res_bl hR (bl_alloc (bl_refl X) _)) (by intro he;have:=hne _ he.symm;omega)
  have dB:Below base w w1:=((hB.mono hq.2).alloc (by have:=hB.size;omega) _).grown hgrow (by have:=hB.size;rw[World.size_alloc];omega) (fun gg hgg=>(hq.1 gg hgg).1)
  obtain⟨a9,cp9,rfl,-⟩:=own_log hown2
  have hlt2:∀ gg,Value.ownBlock (.slice a9 (0+1) cp9)=some gg→gg≠w.heap.size+1∧gg≠w.heap.size+1+1:=fun gg hgg=>⟨own_ne hown2 (grown_box hgrow (box_alloc hT1 _) (by intro he;have:=hne _ he.symm;omega)) gg hgg,own_ne hown2 (grown_box hgrow (box_alloc hT2 _) (by intro he;have:=hne _ he.symm;omega)) gg hgg⟩
  obtain⟨f0,f1,f2,f3,u0,u1,u2,u3,i0,i1,i2,i3⟩:=res_all dR
  have fz:=(dQ 3 (by omega)).1
  clear hR hQ hB hgrow c0 c1 c2 c3 c4 c5 c6 c7 c8 c9
  go_wp2_with fail
  (try simp only[Exit.inBlock,Exit.then])
  refine bodyPost_ret (results_state rfl _ _ (by rfl) (set4r (res_set dR _ _))) rfl ⟨_,0+1,rfl,by show OwnLog _ _ _ _ (noteL (decide ((L.length:Int)=cc)) at_ cost L);rw[HN.out];exact own_far4 (own_far hown2 _ _ (fun gg hgg=>(hlt2 gg hgg).1)) (fun gg hgg=>(hlt2 gg hgg).2),blB4 (dB.setCell (by have:=hq.2;dsimp only;omega) _) (by have:=hq.2;omega)⟩

theorem note_more (k l d b cc:Int) (o:Bool) (at_ level held cost:Int) (g m cap:Nat) (L:List (Int × Int)) (base:Nat) (w:World) (hb0:base≤w.heap.size) (hown:OwnLog w base (.slice (some ⟨g,0,none⟩) (m+1) cap) (m+1) L) (hm:m<1000) (E1:Int) (hE1:(L.getD m (0,0)).1=E1) (hin1:¬ E1=at_) (hin2:¬ (m:Int)+1=cc) :
    Calls Tryz.prog 156 #[.agg #[.int .i64 k,.int .i64 l,.int .i64 d,.int .i64 b,.int .i64 cc,.bool o],.agg #[.int .i64 at_,.int .i64 level,.int .i64 held,.slice (some ⟨g,0,none⟩) (m+1) cap],.int .i64 cost] w
      (NotePost ⟨k,l,d,b,cc,o⟩ ⟨at_,level,held,L⟩ cost base w):=by
  have hlen:L.length=(m+1):=by have:=hown.1;rw[cellsL_len] at this;omega
  have hinto:¬ into (decide ((L.length:Int)=cc)) at_ L:=by
    rintro⟨-,h⟩
    rw[hlen,Nat.add_sub_cancel,hE1] at h
    rcases h with h|h
    · exact hin1 h
    · rw[decide_eq_true_eq] at h
      exact hin2 (by omega)
  have hnote:=note_app (decide ((L.length:Int)=cc)) at_ cost L hinto
  have HN:=Go.Lib.hid hnote
  have hlt:=World.ownsRow.lt hown
  have HX:=Go.Lib.hid (And.intro hlt hb0)
  obtain⟨i0',hi,hz0,hz1,hz2⟩:=info_parts infoE
  have HI:=Go.Lib.hid (And.intro hi (And.intro hz0 (And.intro hz1 hz2)))
  have HO:=Go.Lib.hid hown
  have hg2:=cellsL_get L m (by omega)
  rw[hE1] at hg2
  have HG:=Go.Lib.hid hg2
  have hw1:IntKind.i64.wrap (m:Int)=(m:Int):=IntWalk.i64_in _ (by omega)
  have z1:decide (E1=at_)=false:=decide_eq_false hin1
  have z1':(E1 == at_)=false:=z1
  have z2:decide ((m:Int)+1=cc)=false:=decide_eq_false hin2
  have z2':((m:Int)+1 == cc)=false:=z2
  clear hE1 hg2
  clear hinto hnote hlen hown hlt hi hz0 hz1 hz2
  go_enter Tryz.func156,Tryz.ntmps156
  go_wp2_with fail
  refine wp_abs (S0:=fun w'=>P6 w' (w.heap.size) k l d b cc o (S4 w' (w.heap.size+1) at_ level held (some ⟨g,0,none⟩) (m+1) cap (ResB w' (w.heap.size+1)∧BoxT w' (w.heap.size+1)∧BoxT w' (w.heap.size+1+1)∧ResB w' (w.heap.size+1+1)∧OwnLog w' base (.slice (some ⟨g,0,none⟩) (m+1) cap) (m+1) L∧Below w.heap.size w w'))) ⟨by go_simp,by go_simp,by go_simp,by go_simp,by go_simp,by go_simp,by go_simp,by go_simp,by go_simp,by go_simp,res_bl (res_new (w.alloc _) _ _ _ _ _ (by simp)) k1,box_alloc (box_new (w.alloc _) _ (by simp)) _,box_new _ _ (by simp),res_new _ _ _ _ _ _ (by simp),World.ownsRow.alloc (World.ownsRow.alloc (World.ownsRow.alloc HO.out _) _) _,k3⟩ ?_
  rintro W ⟨c0,c1,c2,c3,c4,c5,c6,c7,c8,c9,hQ,hT1,hT2,hR,hO,hB⟩
  have x1:W.cell? ⟨g,m*2,none⟩=some (.int .i64 E1):=by rw[World.ownsRow.cellAt hO (m*2) (by omega)];exact HG.out.1
  have k0:(0:Int)≤(m:Int):=by omega
  have k1:(m:Int)<(m:Int)+1:=by omega
  have k2:(0:Int)<(m:Int)+1:=by omega
  refine wp_region_held_drew (S:=fun w'=>P6 w' (w.heap.size) k l d b cc o (S4 w' (w.heap.size+1) at_ level held (some ⟨g,0,none⟩) (m+1) cap (w'.cell? ⟨g,m*2,none⟩=some (.int .i64 E1)∧ResB w' (w.heap.size+1)∧BoxT w' (w.heap.size+1)∧BoxT w' (w.heap.size+1+1)∧ResB w' (w.heap.size+1+1)∧Below w.heap.size w w'))) (by kernel_rfl) ?_ (fun hHeld=>?_)
  · exact⟨c0,c1,c2,c3,c4,c5,c6,c7,c8,c9,x1,hQ,hT1,hT2,hR,bl_drew hB⟩
  try simp only[Act.put,List.setIfInBounds_toArray,List.set_cons_zero,List.set_cons_succ]
  refine tkx 0 ?_
  refine tkx 1 ?_
  refine tkx 2 ?_
  first|refine tkx 3 ?_|refine tqx 3 ?_
  first|refine tkx 4 ?_|refine tqx 4 ?_
  first|refine tkx 5 ?_|refine tqx 5 ?_
  first|refine tkx 6 ?_|refine tqx 6 ?_
  first|refine tkx 7 ?_|refine tqx 7 ?_
  first|refine tkx 8 ?_|refine tqx 8 ?_
  first|refine tkx 9 ?_|refine tqx 9 ?_
  first|refine tkx 10 ?_|refine tqx 10 ?_
  first|refine tkx 11 ?_|refine tqx 11 ?_
  first|refine tkx 12 ?_|refine tqx 12 ?_
  first|refine tkx 13 ?_|refine tqx 13 ?_
  first|refine tkx 14 ?_|refine tqx 14 ?_
  first|refine tkx 15 ?_|refine tqx 15 ?_
  first|refine tkx 16 ?_|refine tqx 16 ?_
  first|refine tkx 17 ?_|refine tqx 17 ?_
  first|refine tkx 18 ?_|refine tqx 18 ?_
  refine tkx 19 ?_
  refine wpAnyH_done (by kernel_rfl) ?_ _
  refine then_abs (F:=fun X=>OwnLog X base (.slice (some ⟨g,0,none⟩) (m+1) cap) (m+1) L∧P6 X (w.heap.size) k l d b cc o (S4 X (w.heap.size+1) at_ level held (some ⟨g,0,none⟩) (m+1) cap (X.cell? ⟨g,m*2,none⟩=some (.int .i64 E1)∧ResB X (w.heap.size+1)∧BoxT X (w.heap.size+1)∧BoxT X (w.heap.size+1+1)∧ResB X (w.heap.size+1+1)∧Below w.heap.size w X))) ⟨hO,hHeld⟩ ?_
  clear hO hR hQ hT1 hT2 hB hHeld c0 c1 c2 c3 c4 c5 c6 c7 c8 c9 x1
  rintro X ⟨hO,c0,c1,c2,c3,c4,c5,c6,c7,c8,c9,-,hQ,hT1,hT2,hR,hB⟩
  have u22:∀ w,Sem.run Tryz.prog (underlying 24) w=.ok (TypeDesc.slice 82) w:=run_underlying undS
  have z23:∀ w,(Go.sizeOf 82).run Tryz.prog w=.ok 2 w:=by intro w;kernel_rfl
  have hq:=HX.out
  have hi:=HI.out
  go_wp2_with (at_builtin;refine wpList_append_own _ rfl _ _ 24 rfl base 82 i0' (.agg #[.int .i64 0,.int .i64 0]) 2 16 undS hi.1 hi.2.1 hi.2.2.1 hi.2.2.2 rfl (by decide) _ (m+1) (cellsL L) rfl ?qc0 ⟨X.heap.size,0,none⟩ 1 1 [.int .i64 at_,.int .i64 cost] rfl ?qc1 ?qc2 ?qc3 ?qc4 ?qc5 ?qc6 ?_)
  case qc0=>exact World.ownsRow.alloc hO _
  case qc1=>rfl
  case qc2=>exact World.ownsRow.cells (World.ownsRow_lit X #[.int .i64 at_,.int .i64 cost] 1 (base:=base) (size:=2) (by have:=hB.size;omega) (by simp[maxLen]) rfl) rfl
  case qc3=>intro u hu;simp at hu;rcases hu with rfl|rfl <;> rfl
  case qc4=>simp only[maxLen];omega
  case qc5=>omega
  case qc6=>have:=hB.size;rw[World.size_alloc];omega
  intro v' w1 hown hgrow hnil
  have hown2:OwnLog w1 base v' ((m+1)+1) (L ++ [(at_,cost)]):=by unfold OwnLog;rw[cellsL_append];exact hown
  clear hown hnil hO
  have hne:∀ gg,Value.ownBlock (.slice (some ⟨g,0,none⟩) (m+1) cap)=some gg→gg<w.heap.size:=fun gg hgg=>(hq.1 gg hgg).2
  have d0:=grown_cell hgrow (bl_cell (bl_alloc (bl_refl X) _) c0) (by intro he;have:=hne _ he.symm;omega)
  have d1:=grown_cell hgrow (bl_cell (bl_alloc (bl_refl X) _) c1) (by intro he;have:=hne _ he.symm;omega)
  have d2:=grown_cell hgrow (bl_cell (bl_alloc (bl_refl X) _) c2) (by intro he;have:=hne _ he.symm;omega)
  have d3:=grown_cell hgrow (bl_cell (bl_alloc (bl_refl X) _) c3) (by intro he;have:=hne _ he.symm;omega)
  have d4:=grown_cell hgrow (bl_cell (bl_alloc (bl_refl X) _) c4) (by intro he;have:=hne _ he.symm;omega)
  have d5:=grown_cell hgrow (bl_cell (bl_alloc (bl_refl X) _) c5) (by intro he;have:=hne _ he.symm;omega)
  have d6:=grown_cell hgrow (bl_cell (bl_alloc (bl_refl X) _) c6) (by intro he;have:=hne _ he.symm;omega)
  have d7:=grown_cell hgrow (bl_cell (bl_alloc (bl_refl X) _) c7) (by intro he;have:=hne _ he.symm;omega)
  have d8:=grown_cell hgrow (bl_cell (bl_alloc (bl_refl X) _) c8) (by intro he;have:=hne _ he.symm;omega)
  have d9:=grown_cell hgrow (bl_cell (bl_alloc (bl_refl X) _) c9) (by intro he;have:=hne _ he.symm;omega)
  have dQ:=grown_res hgrow (res_bl hQ (bl_alloc (bl_refl X) _)) (by intro he;have:=hne _ he.symm;omega)
  have dR:=grown_res hgrow (res_bl hR (bl_alloc (bl_refl X) _)) (by intro he;have:=hne _ he.symm;omega)
  have dB:Below base w w1:=((hB.mono hq.2).alloc (by have:=hB.size;omega) _).grown hgrow (by have:=hB.size;rw[World.size_alloc];omega) (fun gg hgg=>(hq.1 gg hgg).1)
  obtain⟨a9,cp9,rfl,-⟩:=own_log hown2
  have hlt2:∀ gg,Value.ownBlock (.slice a9 ((m+1)+1) cp9)=some gg→gg≠w.heap.size+1∧gg≠w.heap.size+1+1:=fun gg hgg=>⟨own_ne hown2 (grown_box hgrow (box_alloc hT1 _) (by intro he;have:=hne _ he.symm;omega)) gg hgg,own_ne hown2 (grown_box hgrow (box_alloc hT2 _) (by intro he;have:=hne _ he.symm;omega)) gg hgg⟩
  obtain⟨f0,f1,f2,f3,u0,u1,u2,u3,i0,i1,i2,i3⟩:=res_all dR
  have fz:=(dQ 3 (by omega)).1
  clear hR hQ hB hgrow c0 c1 c2 c3 c4 c5 c6 c7 c8 c9
  go_wp2_with fail
  (try simp only[Exit.inBlock,Exit.then])
  refine bodyPost_ret (results_state rfl _ _ (by rfl) (set4r (res_set dR _ _))) rfl ⟨_,(m+1)+1,rfl,by show OwnLog _ _ _ _ (noteL (decide ((L.length:Int)=cc)) at_ cost L);rw[HN.out];exact own_far4 (own_far hown2 _ _ (fun gg hgg=>(hlt2 gg hgg).1)) (fun gg hgg=>(hlt2 gg hgg).2),blB4 (dB.setCell (by have:=hq.2;dsimp only;omega) _) (by have:=hq.2;omega)⟩
theorem wadv_none (p:Pol) (s:St) (c:Nat) (now:Int) (w:World) (h:rightL p s) (hlog:LogAt w none 0 c s.log):Calls Tryz.prog 106 #[p.v,s.v none 0 c,.int .i64 now] w fun e w'=>StOwn (advL p s now) w.heap.size e w'∧Below w.heap.size w w':=by
  have hrt:=fun W hW=>wright_any p s none 0 c W hW
  unfold advL
  rw[if_pos h]
  rw[decide_eq_true h] at hrt
  have HLOG:=Go.Lib.hid hlog
  have hcl:=clamp_any now
  have hnil:s.log=[]:=List.length_eq_zero_iff.1 hlog.1
  have hc:c≤9223372036854775807:=hlog.2.2.1
  clear h hlog
  obtain⟨k,l,d,b,cc,o⟩:=p
  obtain⟨at_,level,held,L⟩:=s
  unfold St.v Pol.v at *
  dsimp only at *
  subst hnil
  generalize clampT now=C at *
  have hmx:(if at_<C then C else at_)=up at_ C:=rfl
  generalize up at_ C=T at *
  have HRT:=Go.Lib.hid hrt
  have HCL:=Go.Lib.hid hcl
  clear hrt hcl
  go_enter Tryz.func106,Tryz.ntmps106
  go_wp2_with go_step3
  refine(HRT.out _ (log_bl HLOG.out k3)).mono ?_
  rintro e w1 ⟨rfl,hb⟩
  have hB:Below w.heap.size w w1:=bl_then k3 hb
  obtain⟨c0,c1,c2,c3,c4,c5⟩:=b6 (w.heap.size) k l d b cc o hb
  have c6:=bl_cell (v:=.int .i64 at_) hb (show World.cell? _ ⟨w.heap.size+1,0,none⟩=_ by go_simp)
  have c7:=bl_cell (v:=.int .i64 level) hb (show World.cell? _ ⟨w.heap.size+1,1,none⟩=_ by go_simp)
  have c8:=bl_cell (v:=.int .i64 held) hb (show World.cell? _ ⟨w.heap.size+1,2,none⟩=_ by go_simp)
  have c9:=bl_cell (v:=.slice none 0 c) hb (show World.cell? _ ⟨w.heap.size+1,3,none⟩=_ by go_simp)
  have hR:ResB w1 (w.heap.size+1+1):=res_bl (res_new _ _ _ _ _ _ (by simp)) hb
  clear hb HRT HLOG
  go_wp2_with go_step3
  refine wp_region_held_drew (S:=fun w'=>P6 w' (w.heap.size) k l d b cc o (S4 w' (w.heap.size+1) at_ level held none 0 c (ResB w' (w.heap.size+1+1)∧Below w.heap.size w w'))) (by kernel_rfl) ?_ (fun hHeld=>?_)
  · exact⟨c0,c1,c2,c3,c4,c5,c6,c7,c8,c9,hR,bl_drew hB⟩
  try simp only[Act.put,List.setIfInBounds_toArray,List.set_cons_zero,List.set_cons_succ]
  all_goals refine tkx 0 ?_
  all_goals refine tkx 1 ?_
  all_goals refine tkx 2 ?_
  all_goals((refine callH (i:=3) rfl hHeld (fun W hW K hK=>?_);clear hHeld;(try dsimp only at hW);go_simp;refine(HCL.out _).mono ?_;rintro e w1 ⟨rfl,rfl⟩;go_wp2_with fail;refine hK.out _ _ ?_ (fun hHeld=>?_);(focus((try dsimp only);exact hW));clear hK K;try simp only[Act.put,List.setIfInBounds_toArray,List.set_cons_zero,List.set_cons_succ]))
  all_goals refine tkx 4 ?_
  all_goals refine tkx 5 ?_
  all_goals(refine wpAnyH_done (by kernel_rfl) ?_ _)
  clear hB hR c0 c1 c2 c3 c4 c5 c6 c7 c8 c9
  refine then_abs (F:=fun w'=>P6 w' (w.heap.size) k l d b cc o (S4 w' (w.heap.size+1) at_ level held none 0 c (ResB w' (w.heap.size+1+1)∧Below w.heap.size w w'))) hHeld ?_
  clear hHeld
  rintro W ⟨c0,c1,c2,c3,c4,c5,c6,c7,c8,c9,hR,hB⟩
  go_wp2_with go_step3
  refine wp_loop_rounds 1 ?_
  refine Eq.mpr (rounds_succ (n:=0)) ?_
  repeat' (first|go_skip|go_guarded|go_step|go_step3|go_upon)
  refine wp_region_held_drew (S:=fun w'=>P6 w' (w.heap.size) k l d b cc o (S4 w' (w.heap.size+1) at_ level held none 0 c (ResB w' (w.heap.size+1+1)∧Below w.heap.size w w'))) (by kernel_rfl) ?_ (fun hHeld=>?_)
  · exact⟨c0,c1,c2,c3,c4,c5,c6,c7,c8,c9,hR,bl_drew hB⟩
  try simp only[Act.put,List.setIfInBounds_toArray,List.set_cons_zero,List.set_cons_succ]
  refine tkx 0 ?_
  refine tkx 1 ?_
  refine tkx 2 ?_
  refine tkx 3 ?_
  refine tkx 4 ?_
  refine tkx 5 ?_
  refine tkx 6 ?_
  (refine callH (i:=7) rfl hHeld (fun W hW K hK=>?_);clear hHeld;(try dsimp only at hW);have hB9:=hW.2.2.2.2.2.2.2.2.2.2.2;have hr9:=res_lt hW.2.2.2.2.2.2.2.2.2.2.1;go_simp;refine(clone_nil _ _ _).mono ?_;rintro e w9 ⟨rfl,rfl⟩;go_wp2_with fail;refine hK.out _ _ ?_ (fun hHeld=>?_);(focus((try dsimp only);exact hW));clear hK K;try simp only[Act.put,List.setIfInBounds_toArray,List.set_cons_zero,List.set_cons_succ])
  refine tkx 8 ?_
  (refine callC (i:=9) rfl (fun K hK=>?_);obtain⟨h0,h1,h2,h3,h4,h5,h6,h7,h8,h9,hr',hB'⟩:=hHeld;obtain⟨f0,f1,f2,f3,u0,u1,u2,u3,i0,i1,i2,i3⟩:=res_all hr';go_simp;refine hK.out _ _ ?_ (fun hHeld=>?_);(focus((try dsimp only);(have e0:w.heap.size+1+1≠w.heap.size:=(by omega);have e1:w.heap.size+1+1≠w.heap.size+1:=(by omega);exact⟨far4 h0 e0,far4 h1 e0,far4 h2 e0,far4 h3 e0,far4 h4 e0,far4 h5 e0,far4 h6 e1,far4 h7 e1,far4 h8 e1,far4 h9 e1,res4 hr',bl4 hB' (by omega)⟩)));clear hK K;try simp only[Act.put,List.setIfInBounds_toArray,List.set_cons_zero,List.set_cons_succ])
  refine wpAnyH_done (by kernel_rfl) ?_ _
  obtain⟨-,-,-,-,-,-,-,-,-,-,-,hE⟩:=hHeld
  repeat' (first|go_skip|go_guarded|go_step|go_step3|go_upon)
  (try simp only[Exit.inBlock,Exit.then,Exit.noGoto_ret])
  refine bodyPost_ret (results_state rfl _ _ (by rfl) (set4r hr')) rfl ⟨⟨_,0,rfl,⟨by simp[cellsL,live],.inl ⟨rfl,rfl⟩⟩⟩,hE⟩

theorem wadv_zero (p:Pol) (s:St) (ad:Addr) (c:Nat) (now:Int) (w:World) (h:rightL p s) (hlog:LogAt w (some ad) 0 c s.log):Calls Tryz.prog 106 #[p.v,s.v (some ad) 0 c,.int .i64 now] w fun e w'=>StOwn (advL p s now) w.heap.size e w'∧Below w.heap.size w w':=by
  have hrt:=fun W hW=>wright_any p s (some ad) 0 c W hW
  unfold advL
  rw[if_pos h]
  rw[decide_eq_true h] at hrt
  have HLOG:=Go.Lib.hid hlog
  have hcl:=clamp_any now
  have hnil:s.log=[]:=List.length_eq_zero_iff.1 hlog.1
  have hc:c≤9223372036854775807:=hlog.2.2.1
  clear h hlog
  obtain⟨k,l,d,b,cc,o⟩:=p
  obtain⟨at_,level,held,L⟩:=s
  unfold St.v Pol.v at *
  dsimp only at *
  subst hnil
  generalize clampT now=C at *
  have hmx:(if at_<C then C else at_)=up at_ C:=rfl
  generalize up at_ C=T at *
  have HRT:=Go.Lib.hid hrt
  have HCL:=Go.Lib.hid hcl
  clear hrt hcl
  go_enter Tryz.func106,Tryz.ntmps106
  go_wp2_with go_step3
  refine(HRT.out _ (log_bl HLOG.out k3)).mono ?_
  rintro e w1 ⟨rfl,hb⟩
  have hB:Below w.heap.size w w1:=bl_then k3 hb
  obtain⟨c0,c1,c2,c3,c4,c5⟩:=b6 (w.heap.size) k l d b cc o hb
  have c6:=bl_cell (v:=.int .i64 at_) hb (show World.cell? _ ⟨w.heap.size+1,0,none⟩=_ by go_simp)
  have c7:=bl_cell (v:=.int .i64 level) hb (show World.cell? _ ⟨w.heap.size+1,1,none⟩=_ by go_simp)
  have c8:=bl_cell (v:=.int .i64 held) hb (show World.cell? _ ⟨w.heap.size+1,2,none⟩=_ by go_simp)
  have c9:=bl_cell (v:=.slice (some ad) 0 c) hb (show World.cell? _ ⟨w.heap.size+1,3,none⟩=_ by go_simp)
  have hR:ResB w1 (w.heap.size+1+1):=res_bl (res_new _ _ _ _ _ _ (by simp)) hb
  clear hb HRT HLOG
  go_wp2_with go_step3
  refine wp_region_held_drew (S:=fun w'=>P6 w' (w.heap.size) k l d b cc o (S4 w' (w.heap.size+1) at_ level held (some ad) 0 c (ResB w' (w.heap.size+1+1)∧Below w.heap.size w w'))) (by kernel_rfl) ?_ (fun hHeld=>?_)
  · exact⟨c0,c1,c2,c3,c4,c5,c6,c7,c8,c9,hR,bl_drew hB⟩
  try simp only[Act.put,List.setIfInBounds_toArray,List.set_cons_zero,List.set_cons_succ]
  all_goals refine tkx 0 ?_
  all_goals refine tkx 1 ?_
  all_goals refine tkx 2 ?_
  all_goals((refine callH (i:=3) rfl hHeld (fun W hW K hK=>?_);clear hHeld;(try dsimp only at hW);go_simp;refine(HCL.out _).mono ?_;rintro e w1 ⟨rfl,rfl⟩;go_wp2_with fail;refine hK.out _ _ ?_ (fun hHeld=>?_);(focus((try dsimp only);exact hW));clear hK K;try simp only[Act.put,List.setIfInBounds_toArray,List.set_cons_zero,List.set_cons_succ]))
  all_goals refine tkx 4 ?_
  all_goals refine tkx 5 ?_
  all_goals(refine wpAnyH_done (by kernel_rfl) ?_ _)
  clear hB hR c0 c1 c2 c3 c4 c5 c6 c7 c8 c9
  refine then_abs (F:=fun w'=>P6 w' (w.heap.size) k l d b cc o (S4 w' (w.heap.size+1) at_ level held (some ad) 0 c (ResB w' (w.heap.size+1+1)∧Below w.heap.size w w'))) hHeld ?_
  clear hHeld
  rintro W ⟨c0,c1,c2,c3,c4,c5,c6,c7,c8,c9,hR,hB⟩
  go_wp2_with go_step3
  refine wp_loop_rounds 1 ?_
  refine Eq.mpr (rounds_succ (n:=0)) ?_
  repeat' (first|go_skip|go_guarded|go_step|go_step3|go_upon)
  refine wp_region_held_drew (S:=fun w'=>P6 w' (w.heap.size) k l d b cc o (S4 w' (w.heap.size+1) at_ level held (some ad) 0 c (ResB w' (w.heap.size+1+1)∧Below w.heap.size w w'))) (by kernel_rfl) ?_ (fun hHeld=>?_)
  · exact⟨c0,c1,c2,c3,c4,c5,c6,c7,c8,c9,hR,bl_drew hB⟩
  try simp only[Act.put,List.setIfInBounds_toArray,List.set_cons_zero,List.set_cons_succ]
  obtain⟨ad2,had⟩:∃ ad2,(if c=0 then some ad else some ad)=some ad2:=by split <;> exact⟨_,rfl⟩
  refine tkx 0 ?_
  refine tkx 1 ?_
  refine tkx 2 ?_
  refine tkx 3 ?_
  refine tkx 4 ?_
  refine tkx 5 ?_
  refine tkx 6 ?_
  (refine callH (i:=7) rfl hHeld (fun W hW K hK=>?_);clear hHeld;(try dsimp only at hW);have hB9:=hW.2.2.2.2.2.2.2.2.2.2.2;have hr9:=res_lt hW.2.2.2.2.2.2.2.2.2.2.1;go_simp;refine(clone_any _ 0 _ [] _ rfl (by omega) (fun j u hj=>by simp[cellsL] at hj)).mono ?_;rintro e w9 ⟨v9,rfl,hown,hb⟩;obtain⟨a9,c9,rfl,-⟩:=own_log hown;go_wp2_with fail;refine hK.out _ _ ?_ (fun hHeld=>?_);(focus((try dsimp only);(obtain⟨h0,h1,h2,h3,h4,h5,h6,h7,h8,h9,hr',hB'⟩:=hW;exact⟨bl_cell hb h0,bl_cell hb h1,bl_cell hb h2,bl_cell hb h3,bl_cell hb h4,bl_cell hb h5,bl_cell hb h6,bl_cell hb h7,bl_cell hb h8,bl_cell hb h9,res_bl hr' hb,bl_then hB' hb⟩)));clear hK K;try simp only[Act.put,List.setIfInBounds_toArray,List.set_cons_zero,List.set_cons_succ])
  refine tkx 8 ?_
  (refine callC (i:=9) rfl (fun K hK=>?_);obtain⟨h0,h1,h2,h3,h4,h5,h6,h7,h8,h9,hr',hB'⟩:=hHeld;obtain⟨f0,f1,f2,f3,u0,u1,u2,u3,i0,i1,i2,i3⟩:=res_all hr';go_simp;refine hK.out _ _ ?_ (fun hHeld=>?_);(focus((try dsimp only);(have e0:w.heap.size+1+1≠w.heap.size:=(by omega);have e1:w.heap.size+1+1≠w.heap.size+1:=(by omega);exact⟨far4 h0 e0,far4 h1 e0,far4 h2 e0,far4 h3 e0,far4 h4 e0,far4 h5 e0,far4 h6 e1,far4 h7 e1,far4 h8 e1,far4 h9 e1,res4 hr',bl4 hB' (by omega)⟩)));clear hK K;try simp only[Act.put,List.setIfInBounds_toArray,List.set_cons_zero,List.set_cons_succ])
  refine wpAnyH_done (by kernel_rfl) ?_ _
  obtain⟨-,-,-,-,-,-,-,-,-,-,-,hE⟩:=hHeld
  repeat' (first|go_skip|go_guarded|go_step|go_step3|go_upon)
  (try simp only[Exit.inBlock,Exit.then,Exit.noGoto_ret])
  refine bodyPost_ret (results_state rfl _ _ (by rfl) (set4r hr')) rfl ⟨⟨_,0,rfl,by dsimp only;exact own_mono (own_set4 hown hr9) hB9.size⟩,hE⟩

theorem wadv_no (p:Pol) (s:St) (a:Option Addr) (n c:Nat) (now:Int) (w:World) (h:¬ rightL p s) (hlog:LogAt w a n c s.log):Calls Tryz.prog 106 #[p.v,s.v a n c,.int .i64 now] w fun e w'=>StOwn (advL p s now) w.heap.size e w'∧Below w.heap.size w w':=by
  have hrt:=fun W hW=>wright_any p s a n c W hW
  unfold advL
  rw[if_neg h]
  rw[decide_eq_false h] at hrt
  have HLOG:=Go.Lib.hid hlog
  clear h hlog
  unfold St.none St.v Pol.v at *
  have HRT:=Go.Lib.hid hrt
  clear hrt
  go_enter Tryz.func106,Tryz.ntmps106
  go_wp2_with go_step3
  refine(HRT.out _ (log_bl HLOG.out k3)).mono ?_
  rintro e w1 ⟨rfl,hb⟩
  have hB:Below w.heap.size w w1:=bl_then k3 hb
  have hR:ResB w1 (w.heap.size+1+1):=res_bl (res_new _ _ _ _ _ _ (by simp)) hb
  obtain⟨f0,f1,f2,f3,u0,u1,u2,u3,i0,i1,i2,i3⟩:=res_all hR
  clear hb HRT HLOG
  go_wp2_with go_step3
  (try simp only[Exit.inBlock,Exit.then,Exit.noGoto_ret])
  refine bodyPost_ret (results_state rfl _ _ (by rfl) (set4r hR)) rfl ⟨⟨_,0,rfl,⟨by simp[cellsL],.inl ⟨rfl,rfl⟩⟩⟩,bl4 hB (by omega)⟩

theorem wadv_any (p:Pol) (s:St) (a:Option Addr) (n c:Nat) (now:Int) (w:World) (hlog:LogAt w a n c s.log):Calls Tryz.prog 106 #[p.v,s.v a n c,.int .i64 now] w fun e w'=>StOwn (advL p s now) w.heap.size e w'∧Below w.heap.size w w':=by
  by_cases h:rightL p s
  · by_cases hn:0<n
    · obtain⟨b,off,rfl,-⟩:=hlog.2.2.2 0 hn
      exact wadv_some p s b off n c now w h hlog hn
    · have hn0:n=0:=by omega
      subst hn0
      cases a with
      | none=>exact wadv_none p s c now w h hlog
      | some ad=>exact wadv_zero p s ad c now w h hlog
  · exact wadv_no p s a n c now w h hlog
theorem note_any (p:Pol) (s:St) (a:Option Addr) (n c:Nat) (cost:Int) (base:Nat) (w:World) (hb0:base≤w.heap.size) (hown:OwnLog w base (.slice a n c) n s.log) (hn:n≤1000)
    (hent:∀ e ∈ s.log,0≤e.2∧e.2≤1048576) (hc:0≤cost∧cost≤1048576) :
    Calls Tryz.prog 156 #[p.v,s.v a n c,.int .i64 cost] w (NotePost p s cost base w):=by
  obtain⟨k,l,d,b,cc,o⟩:=p
  obtain⟨at_,level,held,L⟩:=s
  have hlen:L.length=n:=by have:=hown.1;rw[cellsL_len] at this;dsimp only at this;omega
  cases n with
  | zero=>exact note_zero k l d b cc o at_ level held cost a c L base w hb0 hown
  | succ m =>
    have hf:∃ g,a=some ⟨g,0,none⟩:=by
      rcases hown.2 with⟨-,h⟩|⟨g,cap,cur,h,-⟩
      · cases h
      · injection h with h1 h2 h3
        exact⟨g,h1⟩
    obtain⟨g,rfl⟩:=hf
    have hmem:L.getD m (0,0) ∈ L:=by
      have hm:m<L.length:=by omega
      rw[List.getD_eq_getElem?_getD,List.getElem?_eq_getElem hm]
      exact List.getElem_mem hm
    have hb:=hent _ hmem
    by_cases h1:(L.getD m (0,0)).1=at_
    · exact note_write k l d b cc o at_ level held cost g m c L base w hb0 hown (by omega) _ _ rfl rfl ⟨hb.1,hb.2,hc.1,hc.2⟩ (.inl h1)
    · by_cases h2:(m:Int)+1=cc
      · exact note_write k l d b cc o at_ level held cost g m c L base w hb0 hown (by omega) _ _ rfl rfl ⟨hb.1,hb.2,hc.1,hc.2⟩ (.inr ⟨h1,h2⟩)
      · exact note_more k l d b cc o at_ level held cost g m c L base w hb0 hown (by omega) _ rfl h1 h2
theorem own_at {w:World} {base n c:Nat} {a:Option Addr} {L:List (Int × Int)} (h:OwnLog w base (.slice a n c) n L):LogAt w a n c L:=by
  obtain⟨a',c',e,h'⟩:=own_log h
  injection e with e1 e2 e3
  subst e1 e3
  exact h'
theorem clone_all (a:Option Addr) (n c:Nat) (L:List (Int × Int)) (w:World) (h:LogAt w a n c L) (hn:n≤1000) :
    Calls Tryz.prog 142 #[.slice a n c] w fun e w'=>∃ v',e=.returned v'∧OwnLog w' w.heap.size v' n L∧Below w.heap.size w w':=by
  cases a with
  | none =>
    have hn0:n=0:=by
      cases n with
      | zero=>rfl
      | succ m=>obtain⟨b,off,e,-⟩:=h.2.2.2 0 (by omega);cases e
    subst hn0
    have hL:L=[]:=List.length_eq_zero_iff.1 h.1
    subst hL
    refine(clone_nil 0 c w).mono ?_
    rintro e w' ⟨rfl,rfl⟩
    exact⟨_,rfl,⟨rfl,.inl ⟨rfl,rfl⟩⟩,Below.refl _ _⟩
  | some ad =>
    refine clone_any ad n c L w h.1 hn ?_
    by_cases hn0:n=0
    · subst hn0
      have hL:L=[]:=List.length_eq_zero_iff.1 h.1
      subst hL
      intro j u hj
      simp[cellsL] at hj
    · obtain⟨b,off,e,-⟩:=h.2.2.2 0 (by omega)
      injection e with e
      subst e
      refine cellsL_at fun i hi=>?_
      obtain⟨b',off',e',h1,h2⟩:=h.2.2.2 i (by rw[← h.1];exact hi)
      injection e' with e'
      injection e' with e1 e2
      subst e1 e2
      exact⟨h1,h2⟩
theorem live_sub (period t:Int):∀ (L:List (Int × Int)),(∀ e ∈ live period t L,e ∈ L)∧(live period t L).length≤L.length
  | []=>⟨fun e h=>h,Nat.le_refl _⟩
  | x :: l=>by
    have ih:=live_sub period t l
    unfold live
    split
    · exact⟨fun e h=>h,Nat.le_refl _⟩
    · exact⟨fun e h=>List.mem_cons_of_mem _ (ih.1 e h),Nat.le_succ_of_le ih.2⟩
theorem live_sum (period t:Int):∀ (L:List (Int × Int)),(∀ e ∈ L,0≤e.2)→sumL (live period t L)≤sumL L
  | [],_=>Int.le_refl _
  | x :: l,h=>by
    have ih:=live_sum period t l (fun e he=>h e (List.mem_cons_of_mem _ he))
    have hx:=h x List.mem_cons_self
    unfold live
    simp only[sumL]
    split
    · simp[sumL]
    · omega
theorem set_other {w:World} {a p:Addr} {u:Value} (h:w.cell? p=some u) (v:Value) (hne:a≠p):(w.setCell a v).cell? p=some u:=by rw[World.cell?_setCell_other w a p v hne];exact h
theorem res_blB {B:Nat} {w w':World} {b:Nat} (h:ResB w b) (hb:Below B w w') (hlt:b<B):ResB w' b:=fun i hi=>by
  have h1:=h i hi
  exact⟨by rw[hb.frozen (p:=⟨b,i,none⟩) hlt];exact h1.1,by rw[hb.cell (p:=⟨b,i,none⟩) hlt];exact h1.2⟩
/-- A state with a log of one's own, and whether it was done. -/
def StOwn2 (r:St × Bool) (base:Nat) (e:Ending) (w':World):Prop:=∃ (v:Value) (m:Nat),e=.returned (.tuple #[.agg #[.int .i64 r.1.at_,.int .i64 r.1.level,.int .i64 r.1.held,v],.bool r.2])∧OwnLog w' base v m r.1.log
theorem own_above {w:World} {base b:Nat} {v:Value} {n:Nat} {L:List (Int × Int)} (h:OwnLog w base v n L) (hb:b<base):∀ g,v.ownBlock=some g→g≠b:=fun g hg=>by
  have:=(World.ownsRow.lt h g hg).1
  omega
theorem own_bl {w w':World} {base:Nat} {v:Value} {n:Nat} {L:List (Int × Int)} (h:OwnLog w base v n L) (hb:Below w.heap.size w w'):OwnLog w' base v n L:=by
  obtain⟨hl,h⟩:=h
  refine⟨hl,?_⟩
  rcases h with h|⟨g,cap,cur,rfl,h2,h3,h4⟩
  · exact .inl h
  · refine .inr ⟨g,cap,cur,rfl,h2,?_,h4⟩
    rw[hb.block g (Array.getElem?_eq_some_iff.1 h3).1]
    exact h3
theorem gdo_no (p:Pol) (s:St) (a:Option Addr) (n c:Nat) (ak anow acost:Int) (w:World) (hn:s.log.length=n) (h:¬ rightG p s) :
    Calls Tryz.prog 100 #[p.v,s.v a n c,.agg #[.int .i64 ak,.int .i64 anow,.int .i64 acost]] w fun e w'=>e=.returned (.tuple #[.agg #[.int .i64 0,.int .i64 0,.int .i64 0,.slice none 0 0],.bool false])∧Below w.heap.size w w':=by
  have hrt:=gright_any p s a n c hn
  rw[decide_eq_false h] at hrt
  clear h
  unfold St.v Pol.v at *
  have HRT:=Go.Lib.hid hrt
  clear hrt
  go_enter Tryz.func100,Tryz.ntmps100
  go_wp2_with fail
  refine(HRT.out _).mono ?_
  rintro e w1 ⟨rfl,hb⟩
  have hB:Below w.heap.size w w1:=bl_then k4 hb
  have hR:ResB w1 (w.heap.size+1+1+1):=res_bl (res_new _ _ _ _ _ _ (by simp)) hb
  obtain⟨f0,f1,f2,f3,u0,u1,u2,u3,i0,i1,i2,i3⟩:=res_all hR
  clear hb HRT
  go_wp2_with fail
  (try simp only[Exit.inBlock,Exit.then,Exit.noGoto_ret])
  refine bodyPost_ret (results_state2 rfl _ _ (by rfl) (set4r hR)) rfl ⟨rfl,bl4 hB (by omega)⟩

theorem cdo_no (p:Pol) (s:St) (a:Option Addr) (n c:Nat) (ak anow acost:Int) (w:World) (hn:s.log.length=n) (h:¬ rightC p s) :
    Calls Tryz.prog 116 #[p.v,s.v a n c,.agg #[.int .i64 ak,.int .i64 anow,.int .i64 acost]] w fun e w'=>e=.returned (.tuple #[.agg #[.int .i64 0,.int .i64 0,.int .i64 0,.slice none 0 0],.bool false])∧Below w.heap.size w w':=by
  have hrt:=cright_any p s a n c hn
  rw[decide_eq_false h] at hrt
  clear h
  unfold St.v Pol.v at *
  have HRT:=Go.Lib.hid hrt
  clear hrt
  go_enter Tryz.func116,Tryz.ntmps116
  go_wp2_with go_step3
  refine(HRT.out _).mono ?_
  rintro e w1 ⟨rfl,hb⟩
  have hB:Below w.heap.size w w1:=bl_then k4 hb
  have hR:ResB w1 (w.heap.size+1+1+1):=res_bl (res_new _ _ _ _ _ _ (by simp)) hb
  obtain⟨f0,f1,f2,f3,u0,u1,u2,u3,i0,i1,i2,i3⟩:=res_all hR
  clear hb HRT
  go_wp2_with go_step3
  (try simp only[Exit.inBlock,Exit.then,Exit.noGoto_ret])
  refine bodyPost_ret (results_state2 rfl _ _ (by rfl) (set4r hR)) rfl ⟨rfl,bl4 hB (by omega)⟩

theorem wdo_no (p:Pol) (s:St) (a:Option Addr) (n c:Nat) (ak anow acost:Int) (w:World) (hlog:LogAt w a n c s.log) (h:¬ rightL p s) :
    Calls Tryz.prog 108 #[p.v,s.v a n c,.agg #[.int .i64 ak,.int .i64 anow,.int .i64 acost]] w fun e w'=>e=.returned (.tuple #[.agg #[.int .i64 0,.int .i64 0,.int .i64 0,.slice none 0 0],.bool false])∧Below w.heap.size w w':=by
  have hrt:=fun W hW=>wright_any p s a n c W hW
  rw[decide_eq_false h] at hrt
  clear h
  unfold St.v Pol.v at *
  have HRT:=Go.Lib.hid hrt
  clear hrt
  go_enter Tryz.func108,Tryz.ntmps108
  go_wp2_with fail
  refine(HRT.out _ (log_bl hlog k4)).mono ?_
  rintro e w1 ⟨rfl,hb⟩
  have hB:Below w.heap.size w w1:=bl_then k4 hb
  have hR:ResB w1 (w.heap.size+1+1+1):=res_bl (res_new _ _ _ _ _ _ (by simp)) hb
  obtain⟨f0,f1,f2,f3,u0,u1,u2,u3,i0,i1,i2,i3⟩:=res_all hR
  clear hb HRT
  go_wp2_with fail
  (try simp only[Exit.inBlock,Exit.then,Exit.noGoto_ret])
  refine bodyPost_ret (results_state2 rfl _ _ (by rfl) (set4r hR)) rfl ⟨rfl,bl4 hB (by omega)⟩

theorem gdo_cost (p:Pol) (s:St) (a:Option Addr) (n c:Nat) (ak anow acost:Int) (w:World) (hn:s.log.length=n) (h:rightG p s) (hc:¬ (1≤acost∧acost≤p.burst)) :
    Calls Tryz.prog 100 #[p.v,s.v a n c,.agg #[.int .i64 ak,.int .i64 anow,.int .i64 acost]] w fun e w'=>e=.returned (.tuple #[s.v a n c,.bool false])∧Below w.heap.size w w':=by
  have hrt:=gright_any p s a n c hn
  rw[decide_eq_true h] at hrt
  have hin:=in_any acost 1 p.burst
  rw[inB_no hc] at hin
  clear h hn hc
  obtain⟨k,l,d,b,cc,o⟩:=p
  obtain⟨at_,level,held,lg⟩:=s
  unfold St.v Pol.v at *
  dsimp only at *
  have HRT:=Go.Lib.hid hrt
  have HIN:=Go.Lib.hid hin
  clear hrt hin
  go_enter Tryz.func100,Tryz.ntmps100
  go_wp2_with fail
  refine(HRT.out _).mono ?_
  rintro e w1 ⟨rfl,hb⟩
  have hB:Below w.heap.size w w1:=bl_then k4 hb
  obtain⟨c0,c1,c2,c3,c4,c5⟩:=b6 (w.heap.size) k l d b cc o hb
  have c6:=bl_cell (v:=.int .i64 at_) hb (show World.cell? _ ⟨w.heap.size+1,0,none⟩=_ by go_simp)
  have c7:=bl_cell (v:=.int .i64 level) hb (show World.cell? _ ⟨w.heap.size+1,1,none⟩=_ by go_simp)
  have c8:=bl_cell (v:=.int .i64 held) hb (show World.cell? _ ⟨w.heap.size+1,2,none⟩=_ by go_simp)
  have c9:=bl_cell (v:=.slice a n c) hb (show World.cell? _ ⟨w.heap.size+1,3,none⟩=_ by go_simp)
  obtain⟨c10,c11,c12⟩:=b3 (w.heap.size+1+1) ak anow acost hb
  have hR:ResB w1 (w.heap.size+1+1+1):=res_bl (res_new _ _ _ _ _ _ (by simp)) hb
  obtain⟨f0,f1,f2,f3,u0,u1,u2,u3,i0,i1,i2,i3⟩:=res_all hR
  clear hb HRT
  go_wp2_with fail
  refine(HIN.out _).mono ?_
  rintro e w2 ⟨rfl,rfl⟩
  clear HIN
  go_wp2_with fail
  (try simp only[Exit.inBlock,Exit.then])
  refine bodyPost_ret (results_state2 rfl _ _ (by rfl) (set4r hR)) rfl ⟨rfl,bl4 hB (by omega)⟩
theorem btake_any (k l d b cc:Int) (o:Bool) (at_ level held cost:Int) (a:Option Addr) (n c:Nat) (w:World) (hw1:IntKind.i64.wrap (cost*d)=cost*d) (hw2:IntKind.i64.wrap (level - cost*d)=level - cost*d) :
    Calls Tryz.prog 176 #[.agg #[.int .i64 k,.int .i64 l,.int .i64 d,.int .i64 b,.int .i64 cc,.bool o],.agg #[.int .i64 at_,.int .i64 level,.int .i64 held,.slice a n c],.int .i64 cost] w
      fun e w'=>e=.returned (.tuple #[.agg #[.int .i64 at_,.int .i64 (level - cost*d),.int .i64 (held),.slice a n c],.bool (decide (0≤level - cost*d))])∧Below w.heap.size w w':=by
  go_enter Tryz.func176,Tryz.ntmps176
  go_wp2_with fail
  refine wp_abs (S0:=fun w'=>P6 w' (w.heap.size) k l d b cc o (S4 w' (w.heap.size+1) at_ (level - cost*d) (held) a n c (ResB w' (w.heap.size+1+1)∧Below w.heap.size w w'))) ⟨by go_simp,by go_simp,by go_simp,by go_simp,by go_simp,by go_simp,by go_simp,by go_simp,by go_simp,by go_simp,res_new _ _ _ _ _ _ (by simp),k3⟩ ?_
  rintro W ⟨c0,c1,c2,c3,c4,c5,c6,c7,c8,c9,hR,hB⟩
  refine wp_region_held_drew (S:=fun w'=>P6 w' (w.heap.size) k l d b cc o (S4 w' (w.heap.size+1) at_ (level - cost*d) (held) a n c (ResB w' (w.heap.size+1+1)∧Below w.heap.size w w'))) (by kernel_rfl) ?_ (fun hHeld=>?_)
  · exact⟨c0,c1,c2,c3,c4,c5,c6,c7,c8,c9,hR,bl_drew hB⟩
  try simp only[Act.put,List.setIfInBounds_toArray,List.set_cons_zero,List.set_cons_succ]
  all_goals refine tkx 0 ?_
  all_goals refine tkx 1 ?_
  all_goals refine tkx 2 ?_
  all_goals refine tkx 3 ?_
  all_goals((refine callH (i:=4) rfl hHeld (fun W hW K hK=>?_);clear hHeld;(try dsimp only at hW);obtain⟨h0,h1,h2,h3,h4,h5,h6,h7,h8,h9,hr',hB'⟩:=hW;obtain⟨f0,f1,f2,f3,u0,u1,u2,u3,i0,i1,i2,i3⟩:=res_all hr';go_simp;refine hK.out _ _ ?_ (fun hHeld=>?_);(focus((try dsimp only);(have e0:w.heap.size+1+1≠w.heap.size:=(by omega);have e1:w.heap.size+1+1≠w.heap.size+1:=(by omega);exact⟨far4 h0 e0,far4 h1 e0,far4 h2 e0,far4 h3 e0,far4 h4 e0,far4 h5 e0,far4 h6 e1,far4 h7 e1,far4 h8 e1,far4 h9 e1,res4 hr',bl4 hB' (by omega)⟩)));clear hK K;try simp only[Act.put,List.setIfInBounds_toArray,List.set_cons_zero,List.set_cons_succ]))
  all_goals refine tkx 5 ?_
  all_goals(refine wpAnyH_done (by kernel_rfl) ?_ _)
  obtain⟨-,-,-,-,-,-,-,-,-,-,-,hE⟩:=hHeld
  go_wp2
  (try simp only[Exit.inBlock,Exit.then])
  refine bodyPost_ret (results_state2 rfl _ _ (by rfl) (set4 _ _ _ _ i0 i1 i2 i3)) rfl ⟨by first|rfl|simp,hE⟩
theorem bback_any (k l d b cc:Int) (o:Bool) (at_ level held cost:Int) (a:Option Addr) (n c:Nat) (w:World) (hw1:IntKind.i64.wrap (held - cost)=held - cost) :
    Calls Tryz.prog 177 #[.agg #[.int .i64 k,.int .i64 l,.int .i64 d,.int .i64 b,.int .i64 cc,.bool o],.agg #[.int .i64 at_,.int .i64 level,.int .i64 held,.slice a n c],.int .i64 cost] w
      fun e w'=>e=.returned (.tuple #[.agg #[.int .i64 at_,.int .i64 (level),.int .i64 (held - cost),.slice a n c],.bool (decide (0≤held - cost))])∧Below w.heap.size w w':=by
  go_enter Tryz.func177,Tryz.ntmps177
  go_wp2_with fail
  refine wp_abs (S0:=fun w'=>P6 w' (w.heap.size) k l d b cc o (S4 w' (w.heap.size+1) at_ (level) (held - cost) a n c (ResB w' (w.heap.size+1+1)∧Below w.heap.size w w'))) ⟨by go_simp,by go_simp,by go_simp,by go_simp,by go_simp,by go_simp,by go_simp,by go_simp,by go_simp,by go_simp,res_new _ _ _ _ _ _ (by simp),k3⟩ ?_
  rintro W ⟨c0,c1,c2,c3,c4,c5,c6,c7,c8,c9,hR,hB⟩
  refine wp_region_held_drew (S:=fun w'=>P6 w' (w.heap.size) k l d b cc o (S4 w' (w.heap.size+1) at_ (level) (held - cost) a n c (ResB w' (w.heap.size+1+1)∧Below w.heap.size w w'))) (by kernel_rfl) ?_ (fun hHeld=>?_)
  · exact⟨c0,c1,c2,c3,c4,c5,c6,c7,c8,c9,hR,bl_drew hB⟩
  try simp only[Act.put,List.setIfInBounds_toArray,List.set_cons_zero,List.set_cons_succ]
  all_goals refine tkx 0 ?_
  all_goals refine tkx 1 ?_
  all_goals refine tkx 2 ?_
  all_goals refine tkx 3 ?_
  all_goals((refine callH (i:=4) rfl hHeld (fun W hW K hK=>?_);clear hHeld;(try dsimp only at hW);obtain⟨h0,h1,h2,h3,h4,h5,h6,h7,h8,h9,hr',hB'⟩:=hW;obtain⟨f0,f1,f2,f3,u0,u1,u2,u3,i0,i1,i2,i3⟩:=res_all hr';go_simp;refine hK.out _ _ ?_ (fun hHeld=>?_);(focus((try dsimp only);(have e0:w.heap.size+1+1≠w.heap.size:=(by omega);have e1:w.heap.size+1+1≠w.heap.size+1:=(by omega);exact⟨far4 h0 e0,far4 h1 e0,far4 h2 e0,far4 h3 e0,far4 h4 e0,far4 h5 e0,far4 h6 e1,far4 h7 e1,far4 h8 e1,far4 h9 e1,res4 hr',bl4 hB' (by omega)⟩)));clear hK K;try simp only[Act.put,List.setIfInBounds_toArray,List.set_cons_zero,List.set_cons_succ]))
  all_goals refine tkx 5 ?_
  all_goals(refine wpAnyH_done (by kernel_rfl) ?_ _)
  obtain⟨-,-,-,-,-,-,-,-,-,-,-,hE⟩:=hHeld
  go_wp2
  (try simp only[Exit.inBlock,Exit.then])
  refine bodyPost_ret (results_state2 rfl _ _ (by rfl) (set4 _ _ _ _ i0 i1 i2 i3)) rfl ⟨by first|rfl|simp,hE⟩
end Go.Proofs.YtmhikkbdhboodaaGreat

namespace Go.Proofs.YtmhikkbdhboodaaGreat
open Go.RowKit
set_option linter.unusedVariables false
set_option linter.unusedSimpArgs false

theorem undM:Tryz.prog.underlying 141=some (.map 3 139):=by kernel_rfl
theorem undI:Tryz.prog.underlying 3=some (.int .i64):=by kernel_rfl
theorem zeroF (w:World):(zeroValue 139).run Tryz.prog w=.ok .nilFunc w:=by kernel_rfl

theorem chkI (b:Bool) (k:Int) (w:World):(Instr.checkKey b 10000 3 (.int .i64 k)).run Tryz.prog w=.ok () w:=by cases b <;> kernel_rfl

theorem upd_new (W:World) (r:Nat) (hr:r=W.heap.size) (es:Array MapEntry) (cl:Nat) (k:Int) (v:Value) (hf:Instr.findNow (.int .i64) (.int .i64 k) es.toList 0=some none) :
    (Instr.mapUpdate 141 (.map (some r)) (.int .i64 k) v).run Tryz.prog (W.alloc (.map es cl))=.ok () (W.alloc (.map (es.push ⟨.int .i64 k,v,cl⟩) (cl+1))):=by
  subst hr
  unfold Instr.mapUpdate
  have h1:(W.alloc (.map es cl)).heap[W.heap.size]?=some (.map es cl):=heap_alloc_new W _
  simp[go_sem,undM,undI,chkI,Instr.findKey,hf,MapKept.run_getObj_map h1,MapKept.run_setObj_map _ h1,Result.andThen]
  have h2:∀ a b:Obj,(W.heap.push a).setIfInBounds W.heap.size b=W.heap.push b:=fun a b=>by
    apply Array.ext'
    simp[List.set_append]
  show World.mk _ _ _ _ _=World.mk _ _ _ _ _
  congr 1
  exact h2 _ _
theorem find_acts (W:World) (r:Nat) (k:Int) (v1 v2 v3 v4:Value) (hW:W.heap[r]?=some (.map #[⟨.int .i64 1,v1,0⟩,⟨.int .i64 2,v2,1⟩,⟨.int .i64 3,v3,2⟩,⟨.int .i64 4,v4,3⟩] 4)) :
    (Instr.lookup 141 (.map (some r)) (.int .i64 k) true).run Tryz.prog W =
      .ok (.tuple #[if k=1 then v1 else if k=2 then v2 else if k=3 then v3 else if k=4 then v4 else .nilFunc,.bool (decide (k=1∨k=2∨k=3∨k=4))]) W:=by
  unfold Instr.lookup
  by_cases h1:k=1
  · subst h1;simp[go_sem,undM,undI,chkI,Instr.findKey,MapKept.run_getObj_map hW,Instr.findNow,Instr.sameNow,Result.andThen]
  by_cases h2:k=2
  · subst h2;simp[go_sem,undM,undI,chkI,Instr.findKey,MapKept.run_getObj_map hW,Instr.findNow,Instr.sameNow,Result.andThen]
  by_cases h3:k=3
  · subst h3;simp[go_sem,undM,undI,chkI,Instr.findKey,MapKept.run_getObj_map hW,Instr.findNow,Instr.sameNow,Result.andThen]
  by_cases h4:k=4
  · subst h4;simp[go_sem,undM,undI,chkI,Instr.findKey,MapKept.run_getObj_map hW,Instr.findNow,Instr.sameNow,Result.andThen]
  · have g1:(k == 1)=false:=by simpa using h1
    have g2:(k == 2)=false:=by simpa using h2
    have g3:(k == 3)=false:=by simpa using h3
    have g4:(k == 4)=false:=by simpa using h4
    simp[go_sem,undM,undI,chkI,Instr.findKey,MapKept.run_getObj_map hW,Instr.findNow,Instr.sameNow,Result.andThen,g1,g2,g3,g4,h1,h2,h3,h4,zeroF]

/-- The function of an act's number. -/
def actF (q1 q2:Nat) (k:Int):Value :=
  if k=1 then .func (.func 176) #[] #[] else if k=2 then .func (.func 178) #[] #[.pointer (some ⟨q1,0,none⟩)]
  else if k=3 then .func (.func 179) #[] #[.pointer (some ⟨q2,0,none⟩)] else if k=4 then .func (.func 177) #[] #[] else .nilFunc
/-- The map of acts, and the two variables that its functions have. -/
def ActsAt (W:World) (r q1 q2:Nat):Prop :=
  W.cell? ⟨q1,0,none⟩=some (.func (.func 176) #[] #[])∧W.cell? ⟨q2,0,none⟩=some (.func (.func 177) #[] #[]) ∧
  W.heap[r]?=some (.map #[⟨.int .i64 1,.func (.func 176) #[] #[],0⟩,⟨.int .i64 2,.func (.func 178) #[] #[.pointer (some ⟨q1,0,none⟩)],1⟩,
    ⟨.int .i64 3,.func (.func 179) #[] #[.pointer (some ⟨q2,0,none⟩)],2⟩,⟨.int .i64 4,.func (.func 177) #[] #[],3⟩] 4)
theorem acts_look {W:World} {r q1 q2:Nat} (h:ActsAt W r q1 q2) (k:Int) :
    (Instr.lookup 141 (.map (some r)) (.int .i64 k) true).run Tryz.prog W=.ok (.tuple #[actF q1 q2 k,.bool (decide (k=1∨k=2∨k=3∨k=4))]) W :=
  find_acts W r k _ _ _ _ h.2.2

theorem acts_any (w:World) :
    Calls Tryz.prog 160 #[] w fun e w'=>e=.returned (.map (some (w.heap.size+1+1)))∧ActsAt w' (w.heap.size+1+1) w.heap.size (w.heap.size+1)∧Below w.heap.size w w':=by
  have hmf:∀ (fn:Fn) (first cap:Array Value) (w:World),(Instr.makeFunc fn first cap).run Tryz.prog w=.ok (.func fn first cap) w:=fun _ _ _ _=>rfl
  have hmm:∀ (w:World),(Instr.makeMap 141 none).run Tryz.prog w=.ok (.map (some w.heap.size)) (w.alloc (.map #[] 0)):=fun _=>rfl
  have i1:=fun(W:World) (r:Nat) (hr:r=W.heap.size) (v:Value)=>upd_new W r hr #[] 0 1 v rfl
  have i2:=fun(W:World) (r:Nat) (hr:r=W.heap.size) (v1 v:Value)=>upd_new W r hr #[⟨.int .i64 1,v1,0⟩] 1 2 v rfl
  have i3:=fun(W:World) (r:Nat) (hr:r=W.heap.size) (v1 v2 v:Value)=>upd_new W r hr #[⟨.int .i64 1,v1,0⟩,⟨.int .i64 2,v2,1⟩] 2 3 v rfl
  have i4:=fun(W:World) (r:Nat) (hr:r=W.heap.size) (v1 v2 v3 v:Value)=>upd_new W r hr #[⟨.int .i64 1,v1,0⟩,⟨.int .i64 2,v2,1⟩,⟨.int .i64 3,v3,2⟩] 3 4 v rfl
  simp only[List.push_toArray,List.nil_append,List.cons_append,Nat.reduceAdd] at i1 i2 i3 i4
  go_enter Tryz.func160,Tryz.ntmps160
  go_wp2
  go_ret
  refine⟨rfl,⟨?_,?_,?_⟩,k3⟩
  · go_simp
  · go_simp
  · have:=heap_alloc_new ((w.alloc (.cells #[.func (.func 176) #[] #[]] 139)).alloc (.cells #[.func (.func 177) #[] #[]] 139))
    simpa using this _
end Go.Proofs.YtmhikkbdhboodaaGreat

namespace Go.Proofs.YtmhikkbdhboodaaGreat
open Go.RowKit
set_option linter.unusedVariables false
set_option linter.unusedSimpArgs false

theorem acts_bl {w w':World} {r q1 q2:Nat} (h:ActsAt w r q1 q2) (hb:Below w.heap.size w w'):ActsAt w' r q1 q2:=by
  refine⟨bl_cell hb h.1,bl_cell hb h.2.1,?_⟩
  rw[hb.block r]
  · exact h.2.2
  · have h3:=h.2.2
    by_cases hr:r<w.heap.size
    · exact hr
    · rw[Array.getElem?_eq_none (by omega)] at h3
      cases h3

theorem bhold_any (k l d b cc:Int) (o:Bool) (at_ level held cost:Int) (a:Option Addr) (n c:Nat) (q:Nat) (w:World) (hw0:IntKind.i64.wrap (held+cost)=held+cost) (hw1:IntKind.i64.wrap (cost*d)=cost*d) (hw2:IntKind.i64.wrap (level - cost*d)=level - cost*d)
    (hq:w.cell? ⟨q,0,none⟩=some (.func (.func 176) #[] #[])) :
    Calls Tryz.prog 178 #[.agg #[.int .i64 k,.int .i64 l,.int .i64 d,.int .i64 b,.int .i64 cc,.bool o],.agg #[.int .i64 at_,.int .i64 level,.int .i64 held,.slice a n c],.int .i64 cost,.pointer (some ⟨q,0,none⟩)] w
      fun e w'=>e=.returned (.tuple #[.agg #[.int .i64 at_,.int .i64 (level - cost*d),.int .i64 (held+cost),.slice a n c],.bool (decide (0≤level - cost*d))])∧Below w.heap.size w w':=by
  have HT:=Go.Lib.hid (fun w=>btake_any k l d b cc o at_ level (held+cost) cost a n c w hw1 hw2)
  have hq3:∀ o1 o2 o3:Obj,(((w.alloc o1).alloc o2).alloc o3).cell? ⟨q,0,none⟩=_:=fun o1 o2 o3=>bl_cell (bl_alloc (bl_alloc (bl_alloc (bl_refl w) o1) o2) o3) hq
  clear hq
  clear hw1 hw2
  go_enter Tryz.func178,Tryz.ntmps178
  go_wp2_with fail
  refine(HT.out _).mono ?_
  rintro e w1 ⟨rfl,hb⟩
  have hB:Below w.heap.size w w1:=bl_then k3 hb
  have hR:ResB w1 (w.heap.size+1+1):=res_bl (res_new _ _ _ _ _ _ (by simp)) hb
  obtain⟨f0,f1,f2,f3,u0,u1,u2,u3,i0,i1,i2,i3⟩:=res_all hR
  clear hb HT
  go_wp2
  (try simp only[Exit.inBlock,Exit.then])
  refine bodyPost_ret (v:=.tuple #[.agg #[.int .i64 at_,.int .i64 (level - cost*d),.int .i64 (held+cost),.slice a n c],.bool (decide (0≤level - cost*d))]) (by simp[results,Tryz.results178,go_sem,i0,i1,i2,i3]) rfl ⟨rfl,bl_set (bl_set (bl_set (bl_set hB (by dsimp only;omega) _) (by dsimp only;omega) _) (by dsimp only;omega) _) (by dsimp only;omega) _⟩

theorem brelease_any (k l d b cc:Int) (o:Bool) (at_ level held cost:Int) (a:Option Addr) (n c:Nat) (q:Nat) (w:World) (hw0:IntKind.i64.wrap (level+cost*d)=level+cost*d) (hw1:IntKind.i64.wrap (cost*d)=cost*d) (hw2:IntKind.i64.wrap (held - cost)=held - cost)
    (hq:w.cell? ⟨q,0,none⟩=some (.func (.func 177) #[] #[])) :
    Calls Tryz.prog 179 #[.agg #[.int .i64 k,.int .i64 l,.int .i64 d,.int .i64 b,.int .i64 cc,.bool o],.agg #[.int .i64 at_,.int .i64 level,.int .i64 held,.slice a n c],.int .i64 cost,.pointer (some ⟨q,0,none⟩)] w
      fun e w'=>e=.returned (.tuple #[.agg #[.int .i64 at_,.int .i64 (level+cost*d),.int .i64 (held - cost),.slice a n c],.bool (decide (0≤held - cost))])∧Below w.heap.size w w':=by
  have HT:=Go.Lib.hid (fun w=>bback_any k l d b cc o at_ (level+cost*d) held cost a n c w hw2)
  have hq3:∀ o1 o2 o3:Obj,(((w.alloc o1).alloc o2).alloc o3).cell? ⟨q,0,none⟩=_:=fun o1 o2 o3=>bl_cell (bl_alloc (bl_alloc (bl_alloc (bl_refl w) o1) o2) o3) hq
  clear hq
  clear hw2
  go_enter Tryz.func179,Tryz.ntmps179
  go_wp2_with fail
  refine(HT.out _).mono ?_
  rintro e w1 ⟨rfl,hb⟩
  have hB:Below w.heap.size w w1:=bl_then k3 hb
  have hR:ResB w1 (w.heap.size+1+1):=res_bl (res_new _ _ _ _ _ _ (by simp)) hb
  obtain⟨f0,f1,f2,f3,u0,u1,u2,u3,i0,i1,i2,i3⟩:=res_all hR
  clear hb HT
  go_wp2
  (try simp only[Exit.inBlock,Exit.then])
  refine bodyPost_ret (v:=.tuple #[.agg #[.int .i64 at_,.int .i64 (level+cost*d),.int .i64 (held - cost),.slice a n c],.bool (decide (0≤held - cost))]) (by simp[results,Tryz.results179,go_sem,i0,i1,i2,i3]) rfl ⟨rfl,bl_set (bl_set (bl_set (bl_set hB (by dsimp only;omega) _) (by dsimp only;omega) _) (by dsimp only;omega) _) (by dsimp only;omega) _⟩
theorem bright_walk (k l d b cc:Int) (o:Bool) (at_ level held:Int) (a:Option Addr) (n c:Nat) (w:World) (r:Bool)
    (hr:r=true↔(okB ⟨k,l,d,b,cc,o⟩∧0≤at_∧at_≤9007199254740992∧0≤held∧held≤b∧0≤level∧level≤(b - held)*d∧n=0)) :
    Calls Tryz.prog 121 #[.agg #[.int .i64 k,.int .i64 l,.int .i64 d,.int .i64 b,.int .i64 cc,.bool o],.agg #[.int .i64 at_,.int .i64 level,.int .i64 held,.slice a n c]] w fun e w'=>e=.returned (.bool r)∧Below w.heap.size w w':=by
  have HR:=Go.Lib.hid hr
  clear hr
  have hck:=bcheck_any ⟨k,l,d,b,cc,o⟩
  unfold Pol.v at hck
  dsimp only at hck
  have hC:(chkB ⟨k,l,d,b,cc,o⟩=0∧okB ⟨k,l,d,b,cc,o⟩)∨(chkB ⟨k,l,d,b,cc,o⟩=2∧¬ okB ⟨k,l,d,b,cc,o⟩):=by
    by_cases h:okB ⟨k,l,d,b,cc,o⟩
    · exact .inl ⟨(chk_ok h).symm,h⟩
    · exact .inr ⟨(chk_no h).symm,h⟩
  generalize chkB ⟨k,l,d,b,cc,o⟩=C at *
  have HC:=Go.Lib.hid hC
  have HCK:=Go.Lib.hid hck
  have HW:=Go.Lib.hid (show okB ⟨k,l,d,b,cc,o⟩→0≤held→held≤b→IntKind.i64.wrap (b - held)=b - held∧IntKind.i64.wrap ((b - held)*d)=(b - held)*d from fun hok h0 h1=>by
    obtain⟨q0,q1,q2,q3,q4,q5,q6,q7⟩:=hok
    dsimp only at *
    have h2:(b - held)*d≤1152921504606846976:=prod_le (by omega) (by omega) (by omega)
    have h3:0≤(b - held)*d:=Int.mul_nonneg (by omega) (by omega)
    exact⟨IntWalk.i64_in _ (by omega),IntWalk.i64_in _ (by omega)⟩)
  have hcl:=clamp_any at_
  have hT:(clampT at_ == at_)=true↔0≤at_∧at_≤9007199254740992:=by
    have:=clampT_range at_
    rw[beq_iff_eq]
    constructor
    · intro h;omega
    · intro h;exact clampT_id h.1 h.2
  generalize clampT at_=T at *
  obtain⟨g1,hg1⟩:∃ g,(T == at_)=g:=⟨_,rfl⟩
  have hg1':decide (T=at_)=g1:=hg1
  obtain⟨g2,hg2⟩:∃ g,decide (0≤held)=g:=⟨_,rfl⟩
  obtain⟨g3,hg3⟩:∃ g,decide (held≤b)=g:=⟨_,rfl⟩
  obtain⟨g4,hg4⟩:∃ g,decide (0≤level)=g:=⟨_,rfl⟩
  obtain⟨g5,hg5⟩:∃ g,decide (level≤(b - held)*d)=g:=⟨_,rfl⟩
  obtain⟨g6,hg6⟩:∃ g,((n:Int) == 0)=g:=⟨_,rfl⟩
  rw[hg1] at hT
  have HT:=Go.Lib.hid hT
  have HCL:=Go.Lib.hid hcl
  clear hck hC hcl hT
  go_enter Tryz.func121,Tryz.ntmps121
  go_wp2_with fail
  refine wp_abs (S0:=fun w'=>P6 w' (w.heap.size) k l d b cc o (S4 w' (w.heap.size+1) at_ level held a n c (Below w.heap.size w w'))) ⟨by go_simp,by go_simp,by go_simp,by go_simp,by go_simp,by go_simp,by go_simp,by go_simp,by go_simp,by go_simp,k2⟩ ?_
  rintro W ⟨c0,c1,c2,c3,c4,c5,c6,c7,c8,c9,hB⟩
  refine wp_region_held_drew (S:=fun w'=>P6 w' (w.heap.size) k l d b cc o (S4 w' (w.heap.size+1) at_ level held a n c (Below w.heap.size w w'))) (by kernel_rfl) ?_ (fun hHeld=>?_)
  · exact⟨c0,c1,c2,c3,c4,c5,c6,c7,c8,c9,bl_drew hB⟩
  try simp only[Act.put,List.setIfInBounds_toArray,List.set_cons_zero,List.set_cons_succ]
  all_goals((refine tkv (i:=0) (v:=?_) rfl rfl ?_ (by assumption) ?_;rotate_left;(focus(intro w hSw;(try dsimp only at hSw);go_simp <;> with_reducible rfl));try simp only[Act.put,List.setIfInBounds_toArray,List.set_cons_zero,List.set_cons_succ]))
  all_goals((refine callH (i:=1) rfl (by assumption) (fun W hW K hK=>?_);clear hHeld;(try dsimp only at hW);go_simp;refine(HCK.out _).mono ?_;rintro e w1 ⟨rfl,hb⟩;go_wp2_with fail;refine hK.out _ _ ?_ (fun hHeld=>?_);(focus((try dsimp only);(obtain⟨h0,h1,h2,h3,h4,h5,h6,h7,h8,h9,hB'⟩:=hW;exact⟨bl_cell hb h0,bl_cell hb h1,bl_cell hb h2,bl_cell hb h3,bl_cell hb h4,bl_cell hb h5,bl_cell hb h6,bl_cell hb h7,bl_cell hb h8,bl_cell hb h9,bl_then hB' hb⟩)));clear hK K;try simp only[Act.put,List.setIfInBounds_toArray,List.set_cons_zero,List.set_cons_succ]))
  rcases HC.out with⟨rfl,hok⟩|⟨rfl,hok⟩
  all_goals((refine tkv (i:=2) (v:=?_) rfl rfl ?_ (by assumption) ?_;rotate_left;(focus(intro w hSw;(try dsimp only at hSw);go_simp <;> with_reducible rfl));try simp only[Act.put,List.setIfInBounds_toArray,List.set_cons_zero,List.set_cons_succ]))
  all_goals((refine tkv (i:=3) (v:=?_) rfl rfl ?_ (by assumption) ?_;rotate_left;(focus(intro w hSw;(try dsimp only at hSw);go_simp <;> with_reducible rfl));try simp only[Act.put,List.setIfInBounds_toArray,List.set_cons_zero,List.set_cons_succ]))
  all_goals(first|(refine tks (i:=4) rfl rfl (by assumption) ?_;try simp only[Act.put,List.setIfInBounds_toArray,List.set_cons_zero,List.set_cons_succ])|(refine tkv (i:=4) (v:=?_) rfl rfl ?_ (by assumption) ?_;rotate_left;(focus(intro w hSw;(try dsimp only at hSw);go_simp <;> with_reducible rfl));try simp only[Act.put,List.setIfInBounds_toArray,List.set_cons_zero,List.set_cons_succ]))
  all_goals(first|(refine tks (i:=5) rfl rfl (by assumption) ?_;try simp only[Act.put,List.setIfInBounds_toArray,List.set_cons_zero,List.set_cons_succ])|(refine tkv (i:=5) (v:=?_) rfl rfl ?_ (by assumption) ?_;rotate_left;(focus(intro w hSw;(try dsimp only at hSw);go_simp <;> with_reducible rfl));try simp only[Act.put,List.setIfInBounds_toArray,List.set_cons_zero,List.set_cons_succ]))
  all_goals(first|(refine tks (i:=7) rfl rfl (by assumption) ?_;try simp only[Act.put,List.setIfInBounds_toArray,List.set_cons_zero,List.set_cons_succ])|(refine tkv (i:=7) (v:=?_) rfl rfl ?_ (by assumption) ?_;rotate_left;(focus(intro w hSw;(try dsimp only at hSw);go_simp <;> with_reducible rfl));try simp only[Act.put,List.setIfInBounds_toArray,List.set_cons_zero,List.set_cons_succ]))
  all_goals(first|(refine tks (i:=8) rfl rfl (by assumption) ?_;try simp only[Act.put,List.setIfInBounds_toArray,List.set_cons_zero,List.set_cons_succ])|(refine tkv (i:=8) (v:=?_) rfl rfl ?_ (by assumption) ?_;rotate_left;(focus(intro w hSw;(try dsimp only at hSw);go_simp <;> with_reducible rfl));try simp only[Act.put,List.setIfInBounds_toArray,List.set_cons_zero,List.set_cons_succ]))
  all_goals(first|(refine tks (i:=6) rfl rfl (by assumption) ?_;try simp only[Act.put,List.setIfInBounds_toArray,List.set_cons_zero,List.set_cons_succ])|(refine callH (i:=6) rfl (by assumption) (fun W hW K hK=>?_);clear hHeld;(try dsimp only at hW);go_simp;refine(HCL.out _).mono ?_;rintro e w1 ⟨rfl,rfl⟩;go_wp2_with fail;refine hK.out _ _ ?_ (fun hHeld=>?_);(focus((try dsimp only);exact hW));clear hK K;try simp only[Act.put,List.setIfInBounds_toArray,List.set_cons_zero,List.set_cons_succ]))
  all_goals(first|(refine tks (i:=9) rfl rfl (by assumption) ?_;try simp only[Act.put,List.setIfInBounds_toArray,List.set_cons_zero,List.set_cons_succ])|(refine tkv (i:=9) (v:=?_) rfl rfl ?_ (by assumption) ?_;rotate_left;(focus(intro w hSw;(try dsimp only at hSw);go_simp <;> with_reducible rfl));try simp only[Act.put,List.setIfInBounds_toArray,List.set_cons_zero,List.set_cons_succ]))
  all_goals((refine tkv (i:=10) (v:=?_) rfl rfl ?_ (by assumption) ?_;rotate_left;(focus(intro w hSw;(try dsimp only at hSw);go_simp <;> with_reducible rfl));try simp only[Act.put,List.setIfInBounds_toArray,List.set_cons_zero,List.set_cons_succ]))
  all_goals(first|((fail_if_success (clear hg1 hg1' HT g1));cases g1)|skip)
  all_goals((refine tkv (i:=11) (v:=?_) rfl rfl ?_ (by assumption) ?_;rotate_left;(focus(intro w hSw;(try dsimp only at hSw);go_simp <;> with_reducible rfl));try simp only[Act.put,List.setIfInBounds_toArray,List.set_cons_zero,List.set_cons_succ]))
  all_goals(first|(refine tks (i:=12) rfl rfl (by assumption) ?_;try simp only[Act.put,List.setIfInBounds_toArray,List.set_cons_zero,List.set_cons_succ])|(refine tkv (i:=12) (v:=?_) rfl rfl ?_ (by assumption) ?_;rotate_left;(focus(intro w hSw;(try dsimp only at hSw);go_simp <;> with_reducible rfl));try simp only[Act.put,List.setIfInBounds_toArray,List.set_cons_zero,List.set_cons_succ]))
  all_goals(first|(refine tks (i:=13) rfl rfl (by assumption) ?_;try simp only[Act.put,List.setIfInBounds_toArray,List.set_cons_zero,List.set_cons_succ])|(refine tkv (i:=13) (v:=?_) rfl rfl ?_ (by assumption) ?_;rotate_left;(focus(intro w hSw;(try dsimp only at hSw);go_simp <;> with_reducible rfl));try simp only[Act.put,List.setIfInBounds_toArray,List.set_cons_zero,List.set_cons_succ]))
  all_goals(first|(refine tks (i:=14) rfl rfl (by assumption) ?_;try simp only[Act.put,List.setIfInBounds_toArray,List.set_cons_zero,List.set_cons_succ])|(refine tkv (i:=14) (v:=?_) rfl rfl ?_ (by assumption) ?_;rotate_left;(focus(intro w hSw;(try dsimp only at hSw);go_simp <;> with_reducible rfl));try simp only[Act.put,List.setIfInBounds_toArray,List.set_cons_zero,List.set_cons_succ]))
  all_goals((refine tkv (i:=15) (v:=?_) rfl rfl ?_ (by assumption) ?_;rotate_left;(focus(intro w hSw;(try dsimp only at hSw);go_simp <;> with_reducible rfl));try simp only[Act.put,List.setIfInBounds_toArray,List.set_cons_zero,List.set_cons_succ]))
  all_goals(first|((fail_if_success (clear hg2 g2));cases g2)|skip)
  all_goals((refine tkv (i:=16) (v:=?_) rfl rfl ?_ (by assumption) ?_;rotate_left;(focus(intro w hSw;(try dsimp only at hSw);go_simp <;> with_reducible rfl));try simp only[Act.put,List.setIfInBounds_toArray,List.set_cons_zero,List.set_cons_succ]))
  all_goals(first|(refine tks (i:=17) rfl rfl (by assumption) ?_;try simp only[Act.put,List.setIfInBounds_toArray,List.set_cons_zero,List.set_cons_succ])|(refine tkv (i:=17) (v:=?_) rfl rfl ?_ (by assumption) ?_;rotate_left;(focus(intro w hSw;(try dsimp only at hSw);go_simp <;> with_reducible rfl));try simp only[Act.put,List.setIfInBounds_toArray,List.set_cons_zero,List.set_cons_succ]))
  all_goals(first|(refine tks (i:=18) rfl rfl (by assumption) ?_;try simp only[Act.put,List.setIfInBounds_toArray,List.set_cons_zero,List.set_cons_succ])|(refine tkv (i:=18) (v:=?_) rfl rfl ?_ (by assumption) ?_;rotate_left;(focus(intro w hSw;(try dsimp only at hSw);go_simp <;> with_reducible rfl));try simp only[Act.put,List.setIfInBounds_toArray,List.set_cons_zero,List.set_cons_succ]))
  all_goals(first|(refine tks (i:=19) rfl rfl (by assumption) ?_;try simp only[Act.put,List.setIfInBounds_toArray,List.set_cons_zero,List.set_cons_succ])|(refine tkv (i:=19) (v:=?_) rfl rfl ?_ (by assumption) ?_;rotate_left;(focus(intro w hSw;(try dsimp only at hSw);go_simp <;> with_reducible rfl));try simp only[Act.put,List.setIfInBounds_toArray,List.set_cons_zero,List.set_cons_succ]))
  all_goals(first|(refine tks (i:=20) rfl rfl (by assumption) ?_;try simp only[Act.put,List.setIfInBounds_toArray,List.set_cons_zero,List.set_cons_succ])|(refine tkv (i:=20) (v:=?_) rfl rfl ?_ (by assumption) ?_;rotate_left;(focus(intro w hSw;(try dsimp only at hSw);go_simp <;> with_reducible rfl));try simp only[Act.put,List.setIfInBounds_toArray,List.set_cons_zero,List.set_cons_succ]))
  all_goals(first|(refine tks (i:=21) rfl rfl (by assumption) ?_;try simp only[Act.put,List.setIfInBounds_toArray,List.set_cons_zero,List.set_cons_succ])|(refine tkv (i:=21) (v:=?_) rfl rfl ?_ (by assumption) ?_;rotate_left;(focus(intro w hSw;(try dsimp only at hSw);go_simp <;> with_reducible rfl));try simp only[Act.put,List.setIfInBounds_toArray,List.set_cons_zero,List.set_cons_succ]))
  all_goals((refine tkv (i:=22) (v:=?_) rfl rfl ?_ (by assumption) ?_;rotate_left;(focus(intro w hSw;(try dsimp only at hSw);go_simp <;> with_reducible rfl));try simp only[Act.put,List.setIfInBounds_toArray,List.set_cons_zero,List.set_cons_succ]))
  all_goals(first|((fail_if_success (clear hg3 g3));cases g3)|skip)
  all_goals((refine tkv (i:=23) (v:=?_) rfl rfl ?_ (by assumption) ?_;rotate_left;(focus(intro w hSw;(try dsimp only at hSw);go_simp <;> with_reducible rfl));try simp only[Act.put,List.setIfInBounds_toArray,List.set_cons_zero,List.set_cons_succ]))
  all_goals(first|(refine tks (i:=24) rfl rfl (by assumption) ?_;try simp only[Act.put,List.setIfInBounds_toArray,List.set_cons_zero,List.set_cons_succ])|(refine tkv (i:=24) (v:=?_) rfl rfl ?_ (by assumption) ?_;rotate_left;(focus(intro w hSw;(try dsimp only at hSw);go_simp <;> with_reducible rfl));try simp only[Act.put,List.setIfInBounds_toArray,List.set_cons_zero,List.set_cons_succ]))
  all_goals(first|(refine tks (i:=25) rfl rfl (by assumption) ?_;try simp only[Act.put,List.setIfInBounds_toArray,List.set_cons_zero,List.set_cons_succ])|(refine tkv (i:=25) (v:=?_) rfl rfl ?_ (by assumption) ?_;rotate_left;(focus(intro w hSw;(try dsimp only at hSw);go_simp <;> with_reducible rfl));try simp only[Act.put,List.setIfInBounds_toArray,List.set_cons_zero,List.set_cons_succ]))
  all_goals(first|(refine tks (i:=26) rfl rfl (by assumption) ?_;try simp only[Act.put,List.setIfInBounds_toArray,List.set_cons_zero,List.set_cons_succ])|(refine tkv (i:=26) (v:=?_) rfl rfl ?_ (by assumption) ?_;rotate_left;(focus(intro w hSw;(try dsimp only at hSw);go_simp <;> with_reducible rfl));try simp only[Act.put,List.setIfInBounds_toArray,List.set_cons_zero,List.set_cons_succ]))
  all_goals((refine tkv (i:=27) (v:=?_) rfl rfl ?_ (by assumption) ?_;rotate_left;(focus(intro w hSw;(try dsimp only at hSw);go_simp <;> with_reducible rfl));try simp only[Act.put,List.setIfInBounds_toArray,List.set_cons_zero,List.set_cons_succ]))
  all_goals(first|((fail_if_success (clear hg4 g4));cases g4)|skip)
  all_goals((refine tkv (i:=28) (v:=?_) rfl rfl ?_ (by assumption) ?_;rotate_left;(focus(intro w hSw;(try dsimp only at hSw);go_simp <;> with_reducible rfl));try simp only[Act.put,List.setIfInBounds_toArray,List.set_cons_zero,List.set_cons_succ]))
  all_goals(try(have hw:=HW.out hok (by simpa using hg2) (by simpa using hg3);obtain⟨hw1,hw2⟩:=hw))
  all_goals(first|(refine tks (i:=29) rfl rfl (by assumption) ?_;try simp only[Act.put,List.setIfInBounds_toArray,List.set_cons_zero,List.set_cons_succ])|(refine tkv (i:=29) (v:=?_) rfl rfl ?_ (by assumption) ?_;rotate_left;(focus(intro w hSw;(try dsimp only at hSw);go_simp <;> with_reducible rfl));try simp only[Act.put,List.setIfInBounds_toArray,List.set_cons_zero,List.set_cons_succ]))
  all_goals(first|(refine tks (i:=30) rfl rfl (by assumption) ?_;try simp only[Act.put,List.setIfInBounds_toArray,List.set_cons_zero,List.set_cons_succ])|(refine tkv (i:=30) (v:=?_) rfl rfl ?_ (by assumption) ?_;rotate_left;(focus(intro w hSw;(try dsimp only at hSw);go_simp <;> with_reducible rfl));try simp only[Act.put,List.setIfInBounds_toArray,List.set_cons_zero,List.set_cons_succ]))
  all_goals(first|(refine tks (i:=31) rfl rfl (by assumption) ?_;try simp only[Act.put,List.setIfInBounds_toArray,List.set_cons_zero,List.set_cons_succ])|(refine tkv (i:=31) (v:=?_) rfl rfl ?_ (by assumption) ?_;rotate_left;(focus(intro w hSw;(try dsimp only at hSw);go_simp <;> with_reducible rfl));try simp only[Act.put,List.setIfInBounds_toArray,List.set_cons_zero,List.set_cons_succ]))
  all_goals(first|(refine tks (i:=32) rfl rfl (by assumption) ?_;try simp only[Act.put,List.setIfInBounds_toArray,List.set_cons_zero,List.set_cons_succ])|(refine tkv (i:=32) (v:=?_) rfl rfl ?_ (by assumption) ?_;rotate_left;(focus(intro w hSw;(try dsimp only at hSw);go_simp <;> with_reducible rfl));try simp only[Act.put,List.setIfInBounds_toArray,List.set_cons_zero,List.set_cons_succ]))
  all_goals(first|(refine tks (i:=33) rfl rfl (by assumption) ?_;try simp only[Act.put,List.setIfInBounds_toArray,List.set_cons_zero,List.set_cons_succ])|(refine tkv (i:=33) (v:=?_) rfl rfl ?_ (by assumption) ?_;rotate_left;(focus(intro w hSw;(try dsimp only at hSw);go_simp <;> with_reducible rfl));try simp only[Act.put,List.setIfInBounds_toArray,List.set_cons_zero,List.set_cons_succ]))
  all_goals(first|(refine tks (i:=34) rfl rfl (by assumption) ?_;try simp only[Act.put,List.setIfInBounds_toArray,List.set_cons_zero,List.set_cons_succ])|(refine tkv (i:=34) (v:=?_) rfl rfl ?_ (by assumption) ?_;rotate_left;(focus(intro w hSw;(try dsimp only at hSw);go_simp <;> with_reducible rfl));try simp only[Act.put,List.setIfInBounds_toArray,List.set_cons_zero,List.set_cons_succ]))
  all_goals(first|(refine tks (i:=35) rfl rfl (by assumption) ?_;try simp only[Act.put,List.setIfInBounds_toArray,List.set_cons_zero,List.set_cons_succ])|(refine tkv (i:=35) (v:=?_) rfl rfl ?_ (by assumption) ?_;rotate_left;(focus(intro w hSw;(try dsimp only at hSw);go_simp <;> with_reducible rfl));try simp only[Act.put,List.setIfInBounds_toArray,List.set_cons_zero,List.set_cons_succ]))
  all_goals(first|(refine tks (i:=36) rfl rfl (by assumption) ?_;try simp only[Act.put,List.setIfInBounds_toArray,List.set_cons_zero,List.set_cons_succ])|(refine tkv (i:=36) (v:=?_) rfl rfl ?_ (by assumption) ?_;rotate_left;(focus(intro w hSw;(try dsimp only at hSw);go_simp <;> with_reducible rfl));try simp only[Act.put,List.setIfInBounds_toArray,List.set_cons_zero,List.set_cons_succ]))
  all_goals(first|(refine tks (i:=37) rfl rfl (by assumption) ?_;try simp only[Act.put,List.setIfInBounds_toArray,List.set_cons_zero,List.set_cons_succ])|(refine tkv (i:=37) (v:=?_) rfl rfl ?_ (by assumption) ?_;rotate_left;(focus(intro w hSw;(try dsimp only at hSw);go_simp <;> with_reducible rfl));try simp only[Act.put,List.setIfInBounds_toArray,List.set_cons_zero,List.set_cons_succ]))
  all_goals(first|(refine tks (i:=38) rfl rfl (by assumption) ?_;try simp only[Act.put,List.setIfInBounds_toArray,List.set_cons_zero,List.set_cons_succ])|(refine tkv (i:=38) (v:=?_) rfl rfl ?_ (by assumption) ?_;rotate_left;(focus(intro w hSw;(try dsimp only at hSw);go_simp <;> with_reducible rfl));try simp only[Act.put,List.setIfInBounds_toArray,List.set_cons_zero,List.set_cons_succ]))
  all_goals(first|(refine tks (i:=39) rfl rfl (by assumption) ?_;try simp only[Act.put,List.setIfInBounds_toArray,List.set_cons_zero,List.set_cons_succ])|(refine tkv (i:=39) (v:=?_) rfl rfl ?_ (by assumption) ?_;rotate_left;(focus(intro w hSw;(try dsimp only at hSw);go_simp <;> with_reducible rfl));try simp only[Act.put,List.setIfInBounds_toArray,List.set_cons_zero,List.set_cons_succ]))
  all_goals((refine tkv (i:=40) (v:=?_) rfl rfl ?_ (by assumption) ?_;rotate_left;(focus(intro w hSw;(try dsimp only at hSw);go_simp <;> with_reducible rfl));try simp only[Act.put,List.setIfInBounds_toArray,List.set_cons_zero,List.set_cons_succ]))
  all_goals(first|((fail_if_success (clear hg5 g5));cases g5)|skip)
  all_goals((refine tkv (i:=41) (v:=?_) rfl rfl ?_ (by assumption) ?_;rotate_left;(focus(intro w hSw;(try dsimp only at hSw);go_simp <;> with_reducible rfl));try simp only[Act.put,List.setIfInBounds_toArray,List.set_cons_zero,List.set_cons_succ]))
  all_goals(first|(refine tks (i:=42) rfl rfl (by assumption) ?_;try simp only[Act.put,List.setIfInBounds_toArray,List.set_cons_zero,List.set_cons_succ])|(refine tkv (i:=42) (v:=?_) rfl rfl ?_ (by assumption) ?_;rotate_left;(focus(intro w hSw;(try dsimp only at hSw);go_simp <;> with_reducible rfl));try simp only[Act.put,List.setIfInBounds_toArray,List.set_cons_zero,List.set_cons_succ]))
  all_goals(first|(refine tks (i:=43) rfl rfl (by assumption) ?_;try simp only[Act.put,List.setIfInBounds_toArray,List.set_cons_zero,List.set_cons_succ])|(refine tkv (i:=43) (v:=?_) rfl rfl ?_ (by assumption) ?_;rotate_left;(focus(intro w hSw;(try dsimp only at hSw);go_simp <;> with_reducible rfl));try simp only[Act.put,List.setIfInBounds_toArray,List.set_cons_zero,List.set_cons_succ]))
  all_goals(first|(refine tks (i:=44) rfl rfl (by assumption) ?_;try simp only[Act.put,List.setIfInBounds_toArray,List.set_cons_zero,List.set_cons_succ])|(refine tkv (i:=44) (v:=?_) rfl rfl ?_ (by assumption) ?_;rotate_left;(focus(intro w hSw;(try dsimp only at hSw);go_simp <;> with_reducible rfl));try simp only[Act.put,List.setIfInBounds_toArray,List.set_cons_zero,List.set_cons_succ]))
  all_goals(first|(refine tks (i:=45) rfl rfl (by assumption) ?_;try simp only[Act.put,List.setIfInBounds_toArray,List.set_cons_zero,List.set_cons_succ])|(refine tkv (i:=45) (v:=?_) rfl rfl ?_ (by assumption) ?_;rotate_left;(focus(intro w hSw;(try dsimp only at hSw);go_simp <;> with_reducible rfl));try simp only[Act.put,List.setIfInBounds_toArray,List.set_cons_zero,List.set_cons_succ]))
  all_goals((refine tkv (i:=46) (v:=?_) rfl rfl ?_ (by assumption) ?_;rotate_left;(focus(intro w hSw;(try dsimp only at hSw);go_simp <;> with_reducible rfl));try simp only[Act.put,List.setIfInBounds_toArray,List.set_cons_zero,List.set_cons_succ]))
  all_goals((refine tkv (i:=47) (v:=?_) rfl rfl ?_ (by assumption) ?_;rotate_left;(focus(intro w hSw;(try dsimp only at hSw);go_simp <;> with_reducible rfl));try simp only[Act.put,List.setIfInBounds_toArray,List.set_cons_zero,List.set_cons_succ]))
  all_goals(refine wpAnyH_done (by kernel_rfl) ?_ _)
  all_goals(obtain⟨h0,h1,h2,h3,h4,h5,h6,h7,h8,h9,hE⟩:=hHeld;go_wp2;go_ret)
  all_goals
    refine⟨congrArg (fun x=>Ending.returned (.bool x)) ?_,hE⟩
    have h1:=HR.out
    have h2:=HT.out
    generalize (b - held)*d=M at *
    rw[Bool.eq_iff_iff,h1]
    simp only[Bool.false_eq_true,reduceCtorEq,false_iff,iff_true,true_iff,iff_false,decide_eq_true_eq,decide_eq_false_iff_not,beq_iff_eq,beq_eq_false_iff_ne] at *
    first
      | (intro hh;obtain⟨hh0,hh⟩:=hh;first|exact hok hh0|omega)
      | (subst hg6;rw[beq_iff_eq];constructor <;> intro hh <;> (try refine⟨hok,?_⟩) <;> omega)
theorem bright_any (p:Pol) (s:St) (a:Option Addr) (n c:Nat) (hn:s.log.length=n) (w:World) :
    Calls Tryz.prog 121 #[p.v,s.v a n c] w fun e w'=>e=.returned (.bool (decide (rightB p s)))∧Below w.heap.size w w':=by
  refine bright_walk p.kind p.limit p.period p.burst p.cap p.opn s.at_ s.level s.held a n c w _ ?_
  rw[decide_eq_true_eq]
  unfold rightB
  rw[← hn]
  simp only[List.length_eq_zero_iff]
theorem badv_any (p:Pol) (s:St) (a:Option Addr) (n c:Nat) (now:Int) (hn:s.log.length=n) (w:World):Calls Tryz.prog 122 #[p.v,s.v a n c,.int .i64 now] w fun e w'=>e=.returned ((advB p s now).v none 0 0)∧Below w.heap.size w w':=by
  have hrt:=bright_any p s a n c hn
  unfold advB
  by_cases h:rightB p s
  · rw[if_pos h]
    rw[decide_eq_true h] at hrt
    obtain⟨hok,r1,r2,r3,r4,r5,r6,r7⟩:=h
    rw[r7] at hn
    subst hn
    have hdr:=fun d0 most w h1 h2 h3=>bdrops_any p d0 most w hok.2.1 hok.2.2.2.2.1 h1 h2 h3
    obtain⟨k,l,d,b,cc,o⟩:=p
    obtain⟨at_,level,held,lg⟩:=s
    unfold St.v Pol.v at *
    dsimp only[List.length_nil] at *
    have hcl:=clamp_any now
    have hcr:=clampT_range now
    obtain⟨q0,q1,q2,q3,q4,q5,q6,q7⟩:=hok
    dsimp only at *
    have hM:(b - held)*d≤1152921504606846976:=prod_le (by omega) (by omega) (by omega)
    have hM0:0≤(b - held)*d:=Int.mul_nonneg (by omega) (by omega)
    have hw1:IntKind.i64.wrap (b - held)=b - held:=IntWalk.i64_in _ (by omega)
    generalize hMM:(b - held)*d=M at *
    have hw2:IntKind.i64.wrap M=M:=IntWalk.i64_in _ (by omega)
    generalize hCC:clampT now=C at *
    have hT1:(if at_<C then C else at_)=up at_ C:=rfl
    have hTr:at_≤up at_ C∧up at_ C≤9007199254740992:=by unfold up;split <;> omega
    generalize hTT:up at_ C=T at *
    have hw3:IntKind.i64.wrap (T - at_)=T - at_:=IntWalk.i64_in _ (by omega)
    have hw4:IntKind.i64.wrap (M - level)=M - level:=IntWalk.i64_in _ (by omega)
    have hdr':=fun w=>hdr (T - at_) (M - level) w (by omega) (by omega) (by omega)
    have hDD0:0≤l*(T - at_):=Int.mul_nonneg (by omega) (by omega)
    have hD1:0≤dn (l*(T - at_)) (M - level)∧dn (l*(T - at_)) (M - level)≤M - level:=by unfold dn;split <;> omega
    generalize dn (l*(T - at_)) (M - level)=D at *
    have hw5:IntKind.i64.wrap (level+D)=level+D:=IntWalk.i64_in _ (by omega)
    have HRT:=Go.Lib.hid hrt
    have HCL:=Go.Lib.hid hcl
    have HDR:=Go.Lib.hid hdr'
    have hmx:(if at_<C then C else at_)=T:=hT1
    clear hrt hcl hdr' hdr hT1 hTr hD1 hM hM0 hDD0 q0 q1 q2 q3 q4 q5 q6 q7 r1 r2 r3 r4 r5 r6 hcr hCC hTT
    go_enter Tryz.func122,Tryz.ntmps122
    go_wp2_with fail
    refine(HRT.out _).mono ?_
    rintro e w1 ⟨rfl,hb⟩
    have hB:Below w.heap.size w w1:=bl_then k3 hb
    obtain⟨c0,c1,c2,c3,c4,c5⟩:=b6 (w.heap.size) k l d b cc o hb
    have c6:=bl_cell (v:=.int .i64 at_) hb (show World.cell? _ ⟨w.heap.size+1,0,none⟩=_ by go_simp)
    have c7:=bl_cell (v:=.int .i64 level) hb (show World.cell? _ ⟨w.heap.size+1,1,none⟩=_ by go_simp)
    have c8:=bl_cell (v:=.int .i64 held) hb (show World.cell? _ ⟨w.heap.size+1,2,none⟩=_ by go_simp)
    have c9:=bl_cell (v:=.slice a 0 c) hb (show World.cell? _ ⟨w.heap.size+1,3,none⟩=_ by go_simp)
    have hR:ResB w1 (w.heap.size+1+1):=res_bl (res_new _ _ _ _ _ _ (by simp)) hb
    clear hb HRT
    go_wp2_with fail
    refine wp_region_held_drew (S:=fun w'=>P6 w' (w.heap.size) k l d b cc o (S4 w' (w.heap.size+1) at_ level held a 0 c (ResB w' (w.heap.size+1+1)∧Below w.heap.size w w'))) (by kernel_rfl) ?_ (fun hHeld=>?_)
    · exact⟨c0,c1,c2,c3,c4,c5,c6,c7,c8,c9,hR,bl_drew hB⟩
    try simp only[Act.put,List.setIfInBounds_toArray,List.set_cons_zero,List.set_cons_succ]
    all_goals refine tkx 0 ?_
    all_goals refine tkx 1 ?_
    all_goals refine tkx 2 ?_
    all_goals((refine callH (i:=3) rfl hHeld (fun W hW K hK=>?_);clear hHeld;(try dsimp only at hW);go_simp;refine(HCL.out _).mono ?_;rintro e w1 ⟨rfl,rfl⟩;go_wp2_with fail;refine hK.out _ _ ?_ (fun hHeld=>?_);(focus((try dsimp only);exact hW));clear hK K;try simp only[Act.put,List.setIfInBounds_toArray,List.set_cons_zero,List.set_cons_succ]))
    all_goals refine tkx 4 ?_
    all_goals refine tkx 5 ?_
    all_goals(refine wpAnyH_done (by kernel_rfl) ?_ _)
    clear hB hR c0 c1 c2 c3 c4 c5 c6 c7 c8 c9
    obtain⟨c0,c1,c2,c3,c4,c5,c6,c7,c8,c9,hR,hB⟩:=hHeld
    try clear hHeld
    go_wp2_with fail
    refine wp_region_held_drew (S:=fun w'=>P6 w' (w.heap.size) k l d b cc o (S4 w' (w.heap.size+1) at_ level held a 0 c (ResB w' (w.heap.size+1+1)∧Below w.heap.size w w'))) (by kernel_rfl) ?_ (fun hHeld=>?_)
    · exact⟨c0,c1,c2,c3,c4,c5,c6,c7,c8,c9,hR,bl_drew hB⟩
    try simp only[Act.put,List.setIfInBounds_toArray,List.set_cons_zero,List.set_cons_succ]
    all_goals refine tkx 0 ?_
    all_goals refine tkx 1 ?_
    all_goals refine tkx 2 ?_
    all_goals refine tkx 3 ?_
    all_goals refine tkx 4 ?_
    all_goals refine tkx 5 ?_
    all_goals refine tkx 6 ?_
    all_goals refine tkx 7 ?_
    all_goals refine tkx 8 ?_
    all_goals refine tkx 9 ?_
    all_goals refine tkx 10 ?_
    all_goals refine tkx 11 ?_
    all_goals refine tkx 14 ?_
    all_goals refine tkx 15 ?_
    all_goals((refine callH (i:=12) rfl hHeld (fun W hW K hK=>?_);clear hHeld;(try dsimp only at hW);go_simp;refine(HDR.out _).mono ?_;rintro e w1 ⟨rfl,hb⟩;go_wp2_with fail;refine hK.out _ _ ?_ (fun hHeld=>?_);(focus((try dsimp only);(obtain⟨h0,h1,h2,h3,h4,h5,h6,h7,h8,h9,hr',hB'⟩:=hW;exact⟨bl_cell hb h0,bl_cell hb h1,bl_cell hb h2,bl_cell hb h3,bl_cell hb h4,bl_cell hb h5,bl_cell hb h6,bl_cell hb h7,bl_cell hb h8,bl_cell hb h9,res_bl hr' hb,bl_then hB' hb⟩)));clear hK K;try simp only[Act.put,List.setIfInBounds_toArray,List.set_cons_zero,List.set_cons_succ]))
    all_goals refine tkx 13 ?_
    all_goals refine tkx 16 ?_
    all_goals((refine callH (i:=17) rfl hHeld (fun W hW K hK=>?_);clear hHeld;(try dsimp only at hW);obtain⟨h0,h1,h2,h3,h4,h5,h6,h7,h8,h9,hr',hB'⟩:=hW;obtain⟨f0,f1,f2,f3,u0,u1,u2,u3,i0,i1,i2,i3⟩:=res_all hr';go_simp;refine hK.out _ _ ?_ (fun hHeld=>?_);(focus((try dsimp only);(have e0:w.heap.size+1+1≠w.heap.size:=(by omega);have e1:w.heap.size+1+1≠w.heap.size+1:=(by omega);exact⟨far4 h0 e0,far4 h1 e0,far4 h2 e0,far4 h3 e0,far4 h4 e0,far4 h5 e0,far4 h6 e1,far4 h7 e1,far4 h8 e1,far4 h9 e1,res4 hr',bl4 hB' (by omega)⟩)));clear hK K;try simp only[Act.put,List.setIfInBounds_toArray,List.set_cons_zero,List.set_cons_succ]))
    all_goals(refine wpAnyH_done (by kernel_rfl) ?_ _)
    obtain⟨-,-,-,-,-,-,-,-,-,-,-,hE⟩:=hHeld
    go_wp2
    (try simp only[Exit.inBlock,Exit.then])
    refine bodyPost_ret (results_state rfl _ _ (by rfl) (set4 _ _ _ _ i0 i1 i2 i3)) rfl ⟨by first|rfl|simp,hE⟩
  · rw[if_neg h]
    rw[decide_eq_false h] at hrt
    clear h
    unfold St.none St.v Pol.v at *
    have HRT:=Go.Lib.hid hrt
    clear hrt
    go_enter Tryz.func122,Tryz.ntmps122
    go_wp2_with fail
    refine(HRT.out _).mono ?_
    rintro e w1 ⟨rfl,hb⟩
    have hB:Below w.heap.size w w1:=bl_then k3 hb
    have hR:ResB w1 (w.heap.size+1+1):=res_bl (res_new _ _ _ _ _ _ (by simp)) hb
    obtain⟨f0,f1,f2,f3,u0,u1,u2,u3,i0,i1,i2,i3⟩:=res_all hR
    clear hb HRT
    go_wp2
    (try simp only[Exit.inBlock,Exit.then])
    refine bodyPost_ret (results_state rfl _ _ (by rfl) (set4 _ _ _ _ i0 i1 i2 i3)) rfl ⟨by first|rfl|simp,bl4 hB (by omega)⟩
end Go.Proofs.YtmhikkbdhboodaaGreat
