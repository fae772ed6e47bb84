/-
  What tapsterlaw08.small and the policies that may be (tapsterref04.Of ..) answer.
  Acts one behind the other, step by step; a log does not lie in a block.
  Policies, states and acts among a law's arguments, opened to their cells.
  What tapsterref08.Run answers.
  Answers in memory, to be read.
  What a new state has room for: the greatest cost.
  LimiterRuns, walked: it answers true.
  No condition.
-/
import Derived.Test.YtmhikkbdhboodaaGreatZz1
import Derived.Test.YtmhikkbdhboodaaGreatZz12
import Derived.Test.YtmhikkbdhboodaaGreatZz13
import Derived.Test.YtmhikkbdhboodaaGreatZz6
import Derived.Deep.Slices
import Derived.Deep.Fields
import Derived.ChangeSame
set_option maxHeartbeats 8000000
set_option maxRecDepth 100000
namespace Go.Proofs.YtmhikkbdhboodaaGreat
open Go.RowKit
set_option linter.unusedVariables false
set_option linter.unusedSimpArgs false

theorem small_any (a:Option Addr) (n c:Nat) (w:World):Calls Tryz.prog 13 #[.slice a n c] w fun e w'=>e=.returned (.bool (decide ((n:Int)≤60)))∧w=w':=by
  by_cases h:(n:Int)≤60
  · rw[decide_eq_true h]
    go_enter Tryz.func13,Tryz.ntmps13
    go_wp2
    go_ret
    exact⟨by first|rfl|simp[h],rfl⟩
  · rw[decide_eq_false h]
    go_enter Tryz.func13,Tryz.ntmps13
    go_wp2
    go_ret
    exact⟨by first|rfl|simp[h],rfl⟩

end Go.Proofs.YtmhikkbdhboodaaGreat

namespace Go.Proofs.YtmhikkbdhboodaaGreat
open Go.RowKit
set_option linter.unusedVariables false
set_option linter.unusedSimpArgs false

theorem run_step {p:Pol} (s:St) (l:List Ac) {m:Nat} (hm:l.length=m):∀ k,k<m→(runP p s (l.take (k+1))).1=(doP p (runP p s (l.take k)).1 (l.getD k ⟨0,0,0⟩)).1:=fun k hk=>by
  rw[runP_take p s l k (by omega)]
theorem run_all {p:Pol} (s:St) (l:List Ac) {m:Nat} (hm:l.length=m):(runP p s (l.take m)).1=(runP p s l).1:=by rw[← hm,List.take_length]
/-- A log does not lie in a block. -/
def Off (a:Option Addr) (n r:Nat):Prop:=∀ ad,a=some ad→n≠0→ad.block≠r
theorem off_src {w1:World} {a0 a:Option Addr} {n0 n r:Nat} (h:Off a0 n0 r) (hs:Src a0 n0 w1 a n) (hr:r<w1.heap.size):Off a n r:=fun ad e hn=>by
  rcases hs with hs|⟨rfl,rfl⟩|hs
  · exact absurd hs hn
  · exact h ad e hn
  · have:=hs ad e;omega
end Go.Proofs.YtmhikkbdhboodaaGreat

namespace Go.Proofs.YtmhikkbdhboodaaGreat
open Go.RowKit Go.ChangeShapes Go.WideShapes Go.Deep
set_option linter.unusedVariables false
set_option linter.unusedSimpArgs false
set_option maxRecDepth 100000

theorem entry_fields:∃ f0 f1:Field,Tryz.prog.underlying 82=some (.struct #[f0,f1])∧(f0.offset=0∧f0.type=3)∧(f1.offset=1∧f1.type=3) :=
  ⟨_,_,Tryz.underlying82,⟨rfl,rfl⟩,⟨rfl,rfl⟩⟩
theorem act_fields:∃ f0 f1 f2:Field,Tryz.prog.underlying 46=some (.struct #[f0,f1,f2])∧(f0.offset=0∧f0.type=3)∧(f1.offset=1∧f1.type=3)∧(f2.offset=2∧f2.type=3) :=
  ⟨_,_,_,Tryz.underlying46,⟨rfl,rfl⟩,⟨rfl,rfl⟩,⟨rfl,rfl⟩⟩
theorem state_fields:∃ f0 f1 f2 f3:Field,Tryz.prog.underlying 26=some (.struct #[f0,f1,f2,f3])∧(f0.offset=0∧f0.type=3)∧(f1.offset=1∧f1.type=3)∧(f2.offset=2∧f2.type=3)∧(f3.offset=3∧f3.type=24) :=
  ⟨_,_,_,_,Tryz.underlying26,⟨rfl,rfl⟩,⟨rfl,rfl⟩,⟨rfl,rfl⟩,⟨rfl,rfl⟩⟩
theorem pol_fields:∃ f0 f1 f2 f3 f4 f5:Field,Tryz.prog.underlying 23=some (.struct #[f0,f1,f2,f3,f4,f5])∧(f0.offset=0∧f0.type=3)∧(f1.offset=1∧f1.type=3)∧(f2.offset=2∧f2.type=3)∧(f3.offset=3∧f3.type=3)∧(f4.offset=4∧f4.type=3)∧(f5.offset=5∧f5.type=4) :=
  ⟨_,_,_,_,_,_,Tryz.underlying23,⟨rfl,rfl⟩,⟨rfl,rfl⟩,⟨rfl,rfl⟩,⟨rfl,rfl⟩,⟨rfl,rfl⟩,⟨rfl,rfl⟩⟩
theorem lcells_int:Tryz.prog.cellsOf 3=1:=by kernel_rfl
theorem lcells_bool:Tryz.prog.cellsOf 4=1:=by kernel_rfl
theorem lcells_entries:Tryz.prog.cellsOf 24=1:=by kernel_rfl
theorem lcells_entry:Tryz.prog.cellsOf 82=2:=by kernel_rfl
theorem lcells_act:Tryz.prog.cellsOf 46=3:=by kernel_rfl
theorem lcells_state:Tryz.prog.cellsOf 26=4:=by kernel_rfl
theorem lcells_pol:Tryz.prog.cellsOf 23=6:=by kernel_rfl

theorem le_max {c:Nat} (h:c≤maxLen):c≤9223372036854775807:=by
  have e:maxLen=9223372036854775807:=by kernel_rfl
  rw[e] at h;exact h

section
variable {H:Type} {enc:TypeId × Value→H} {w:World} {base:Nat} {spare:Nat→Bool} {held:Bool}

theorem bool_cell {n:Nat} {c:List Value} {y:DataW H × List MemPlace} (h:DataW.trod enc Tryz.prog w base spare held n 4 c=some y) (hc:c.length=1):∃ b,c=[.bool b]:=by
  match c,hc with
  | [v],_ =>
    cases n with
    | zero=>simp[DataW.trod] at h
    | succ n =>
      unfold DataW.trod at h
      rw[Tryz.underlying4] at h
      cases v <;> simp at h
      exact⟨_,rfl⟩
theorem entry_cells {n:Nat} {cs:List Value} {y:DataW H × List MemPlace} (h:DataW.trod enc Tryz.prog w base spare held n 82 cs=some y) :
    ∃ e:Int × Int,cs=[.int .i64 e.1,.int .i64 e.2]:=by
  obtain⟨f0,f1,hu,⟨o0,t0⟩,⟨o1,t1⟩⟩:=entry_fields
  obtain⟨xs,m,_,_,hl,hx,hg⟩:=DataW.trod_struct hu h
  rw[lcells_entry] at hl
  match cs,hl with
  | [c0,c1],_ =>
    match xs,hx with
    | [y0,y1],_ =>
      have g0:=hg 0 f0 rfl
      have g1:=hg 1 f1 rfl
      rw[o0,t0,lcells_int] at g0
      rw[o1,t1,lcells_int] at g1
      obtain⟨n0,e0,_,_⟩:=DataW.trod_int Tryz.underlying3 (g0.trans rfl)
      obtain⟨n1,e1,_,_⟩:=DataW.trod_int Tryz.underlying3 (g1.trans rfl)
      simp at e0 e1
      subst e0 e1
      exact⟨(n0,n1),rfl⟩
theorem act_cells {n:Nat} {cs:List Value} {y:DataW H × List MemPlace} (h:DataW.trod enc Tryz.prog w base spare held n 46 cs=some y) :
    ∃ x:Ac,cs=[.int .i64 x.kind,.int .i64 x.now,.int .i64 x.cost]:=by
  obtain⟨f0,f1,f2,hu,⟨o0,t0⟩,⟨o1,t1⟩,⟨o2,t2⟩⟩:=act_fields
  obtain⟨xs,m,_,_,hl,hx,hg⟩:=DataW.trod_struct hu h
  rw[lcells_act] at hl
  match cs,hl with
  | [c0,c1,c2],_ =>
    match xs,hx with
    | [y0,y1,y2],_ =>
      have g0:=hg 0 f0 rfl
      have g1:=hg 1 f1 rfl
      have g2:=hg 2 f2 rfl
      rw[o0,t0,lcells_int] at g0
      rw[o1,t1,lcells_int] at g1
      rw[o2,t2,lcells_int] at g2
      obtain⟨n0,e0,_,_⟩:=DataW.trod_int Tryz.underlying3 (g0.trans rfl)
      obtain⟨n1,e1,_,_⟩:=DataW.trod_int Tryz.underlying3 (g1.trans rfl)
      obtain⟨n2,e2,_,_⟩:=DataW.trod_int Tryz.underlying3 (g2.trans rfl)
      simp at e0 e1 e2
      subst e0 e1 e2
      exact⟨⟨n0,n1,n2⟩,rfl⟩
/-- The entries of a slice. -/
theorem open_log {fuel:Nat} {cs:List Value} {x:DataW H × List MemPlace} (h:DataW.trod enc Tryz.prog w base spare held fuel 24 cs=some x):∃ a n c L,cs=[.slice a n c]∧LogAt w a n c L:=by
  rcases open_slice Tryz.underlying24 h with⟨rfl,_⟩|⟨ad,len,cap,m,n,D,Pl,rfl,_,hl,hm,hmm,_,hi⟩
  · exact⟨none,0,0,[],rfl,log_nil _ _ _ (by omega)⟩
  · have hle:len≤m:=by rw[hmm];split <;> omega
    have key:∀ i,∃ e:Int × Int,i<len→∃ b off,ad=⟨b,off,none⟩∧w.cell? ⟨b,off+i*2,none⟩=some (.int .i64 e.1)∧w.cell? ⟨b,off+i*2+1,none⟩=some (.int .i64 e.2):=fun i=>by
      by_cases hlt:i<len
      · obtain ⟨cs',hc,ht⟩:=hi i (by omega)
        rw[lcells_entry] at hc
        obtain⟨e,rfl⟩:=entry_cells ht
        obtain⟨_,_,hat⟩:=World.cells?_some hc
        obtain⟨cs0,hc0,_⟩:=hi 0 (by omega)
        rw[lcells_entry] at hc0
        obtain⟨_,hl0,hat0⟩:=World.cells?_some hc0
        obtain⟨b,off,spot⟩:=ad
        have hsp:spot=none:=by
          have h1:=hat0 0 (by omega)
          rw[List.getElem?_eq_getElem (by omega)] at h1
          simpa [Addr.add] using World.cell?_spot h1
        subst hsp
        have plain:∀ j,((⟨b,off,none⟩:Addr).add (i*2)).add j=⟨b,off+i*2+j,none⟩:=fun j=>by
          unfold Addr.add
          split <;> split <;> simp_all <;> omega
        refine⟨e,fun _=>⟨b,off,rfl,?_,?_⟩⟩
        · have:=hat 0 (by omega);rw[plain] at this;simpa using this
        · have:=hat 1 (by omega);rw[plain] at this;simpa using this
      · exact⟨(0,0),fun h=>absurd h hlt⟩
    refine⟨some ad,len,cap,(List.range len).map (fun i=>Classical.choose (key i)),rfl,by simp,hl,le_max hm,fun i hlt=>?_⟩
    obtain⟨b,off,h2,h3⟩:=Classical.choose_spec (key i) hlt
    have e1:((List.range len).map (fun i=>Classical.choose (key i))).getD i (0,0)=Classical.choose (key i):=by
      rw[List.getD_eq_getElem?_getD,List.getElem?_map,List.getElem?_range hlt];rfl
    rw[e1]
    exact⟨b,off,by rw[h2],h3⟩
/-- The acts of a slice. -/
theorem open_acts {fuel:Nat} {a:Option Addr} {len cap:Nat} {x:DataW H × List MemPlace} (h:DataW.trod enc Tryz.prog w base spare held fuel 27 [.slice a len cap]=some x):∃ L,ActsIn w a len cap L:=by
  rcases open_slice Tryz.underlying27 h with⟨e,_⟩|⟨ad,len',cap',m,n,D,Pl,e,_,hl,hm,hmm,_,hi⟩
  · injection e with e _
    injection e with _ e2 e3
    subst e2 e3
    exact⟨[],rfl,Nat.le_refl _,by omega,fun i hi=>by omega⟩
  · injection e with e _
    injection e with e1 e2 e3
    subst e1 e2 e3
    have hle:len≤m:=by rw[hmm];split <;> omega
    have key:∀ i,∃ e:Ac,i<len→∃ b off,ad=⟨b,off,none⟩∧w.cell? ⟨b,off+i*3,none⟩=some (.int .i64 e.kind)∧w.cell? ⟨b,off+i*3+1,none⟩=some (.int .i64 e.now)∧w.cell? ⟨b,off+i*3+2,none⟩=some (.int .i64 e.cost):=fun i=>by
      by_cases hlt:i<len
      · obtain ⟨cs',hc,ht⟩:=hi i (by omega)
        rw[lcells_act] at hc
        obtain⟨e,rfl⟩:=act_cells ht
        obtain⟨_,_,hat⟩:=World.cells?_some hc
        obtain⟨cs0,hc0,_⟩:=hi 0 (by omega)
        rw[lcells_act] at hc0
        obtain⟨_,hl0,hat0⟩:=World.cells?_some hc0
        obtain⟨b,off,spot⟩:=ad
        have hsp:spot=none:=by
          have h1:=hat0 0 (by omega)
          rw[List.getElem?_eq_getElem (by omega)] at h1
          simpa [Addr.add] using World.cell?_spot h1
        subst hsp
        have plain:∀ j,((⟨b,off,none⟩:Addr).add (i*3)).add j=⟨b,off+i*3+j,none⟩:=fun j=>by
          unfold Addr.add
          split <;> split <;> simp_all <;> omega
        refine⟨e,fun _=>⟨b,off,rfl,?_,?_,?_⟩⟩
        · have:=hat 0 (by omega);rw[plain] at this;simpa using this
        · have:=hat 1 (by omega);rw[plain] at this;simpa using this
        · have:=hat 2 (by omega);rw[plain] at this;simpa using this
      · exact⟨⟨0,0,0⟩,fun h=>absurd h hlt⟩
    refine⟨(List.range len).map (fun i=>Classical.choose (key i)),by simp,hl,le_max hm,fun i hlt=>?_⟩
    obtain⟨b,off,h2,h3⟩:=Classical.choose_spec (key i) hlt
    have e1:((List.range len).map (fun i=>Classical.choose (key i))).getD i ⟨0,0,0⟩=Classical.choose (key i):=by
      rw[List.getD_eq_getElem?_getD,List.getElem?_map,List.getElem?_range hlt];rfl
    rw[e1]
    exact⟨b,off,by rw[h2],h3⟩
theorem open_act {v:Value} {r:Reach} {b0:Nat} {d:DataW H} {p:List MemPlace} (hv:Value.okWide Tryz.prog w r b0 46 v) (h:∃ fuel,DataW.trod enc Tryz.prog w base spare held fuel 46 v.cells.toList=some (d,p)):∃ x:Ac,v=x.v:=by
  obtain⟨f0,f1,f2,hu,-⟩:=act_fields
  obtain⟨cs,rfl,-⟩:=okWide_struct hu hv
  obtain⟨fuel,h⟩:=h
  obtain⟨x,hx⟩:=act_cells h
  refine⟨x,congrArg Value.agg ?_⟩
  apply Array.toList_inj.1
  simpa [Value.cells] using hx
theorem open_pol {v:Value} {r:Reach} {b0:Nat} {d:DataW H} {p:List MemPlace} (hv:Value.okWide Tryz.prog w r b0 23 v) (h:∃ fuel,DataW.trod enc Tryz.prog w base spare held fuel 23 v.cells.toList=some (d,p)):∃ x:Pol,v=x.v:=by
  obtain⟨f0,f1,f2,f3,f4,f5,hu,⟨o0,t0⟩,⟨o1,t1⟩,⟨o2,t2⟩,⟨o3,t3⟩,⟨o4,t4⟩,⟨o5,t5⟩⟩:=pol_fields
  obtain⟨cs,rfl,-⟩:=okWide_struct hu hv
  obtain⟨fuel,h⟩:=h
  obtain⟨xs,m,_,_,hl,hx,hg⟩:=DataW.trod_struct hu h
  rw[lcells_pol] at hl
  obtain⟨cl⟩:=cs
  simp only[Value.cells] at hl hg
  match cl,hl with
  | [c0,c1,c2,c3,c4,c5],_ =>
    match xs,hx with
    | [y0,y1,y2,y3,y4,y5],_ =>
      have g0:=hg 0 f0 rfl
      have g1:=hg 1 f1 rfl
      have g2:=hg 2 f2 rfl
      have g3:=hg 3 f3 rfl
      have g4:=hg 4 f4 rfl
      have g5:=hg 5 f5 rfl
      rw[o0,t0,lcells_int] at g0
      rw[o1,t1,lcells_int] at g1
      rw[o2,t2,lcells_int] at g2
      rw[o3,t3,lcells_int] at g3
      rw[o4,t4,lcells_int] at g4
      rw[o5,t5,lcells_bool] at g5
      obtain⟨n0,e0,_,_⟩:=DataW.trod_int Tryz.underlying3 (g0.trans rfl)
      obtain⟨n1,e1,_,_⟩:=DataW.trod_int Tryz.underlying3 (g1.trans rfl)
      obtain⟨n2,e2,_,_⟩:=DataW.trod_int Tryz.underlying3 (g2.trans rfl)
      obtain⟨n3,e3,_,_⟩:=DataW.trod_int Tryz.underlying3 (g3.trans rfl)
      obtain⟨n4,e4,_,_⟩:=DataW.trod_int Tryz.underlying3 (g4.trans rfl)
      obtain⟨n5,e5⟩:=bool_cell (g5.trans rfl) (by simp)
      simp at e0 e1 e2 e3 e4 e5
      subst e0 e1 e2 e3 e4 e5
      exact⟨⟨n0,n1,n2,n3,n4,n5⟩,rfl⟩
theorem open_st {v:Value} {r:Reach} {b0:Nat} {d:DataW H} {p:List MemPlace} (hv:Value.okWide Tryz.prog w r b0 26 v) (h:∃ fuel,DataW.trod enc Tryz.prog w base spare held fuel 26 v.cells.toList=some (d,p)):∃ (s:St) (a:Option Addr) (n c:Nat),v=s.v a n c∧LogAt w a n c s.log:=by
  obtain⟨f0,f1,f2,f3,hu,⟨o0,t0⟩,⟨o1,t1⟩,⟨o2,t2⟩,⟨o3,t3⟩⟩:=state_fields
  obtain⟨cs,rfl,-⟩:=okWide_struct hu hv
  obtain⟨fuel,h⟩:=h
  obtain⟨xs,m,_,_,hl,hx,hg⟩:=DataW.trod_struct hu h
  rw[lcells_state] at hl
  obtain⟨cl⟩:=cs
  simp only[Value.cells] at hl hg
  match cl,hl with
  | [c0,c1,c2,c3],_ =>
    match xs,hx with
    | [y0,y1,y2,y3],_ =>
      have g0:=hg 0 f0 rfl
      have g1:=hg 1 f1 rfl
      have g2:=hg 2 f2 rfl
      have g3:=hg 3 f3 rfl
      rw[o0,t0,lcells_int] at g0
      rw[o1,t1,lcells_int] at g1
      rw[o2,t2,lcells_int] at g2
      rw[o3,t3,lcells_entries] at g3
      obtain⟨n0,e0,_,_⟩:=DataW.trod_int Tryz.underlying3 (g0.trans rfl)
      obtain⟨n1,e1,_,_⟩:=DataW.trod_int Tryz.underlying3 (g1.trans rfl)
      obtain⟨n2,e2,_,_⟩:=DataW.trod_int Tryz.underlying3 (g2.trans rfl)
      obtain⟨a,n,c,L,e3,hL⟩:=open_log (g3.trans rfl)
      simp at e0 e1 e2 e3
      subst e0 e1 e2 e3
      exact⟨⟨n0,n1,n2,L⟩,a,n,c,rfl,hL⟩
end
end Go.Proofs.YtmhikkbdhboodaaGreat

namespace Go.Proofs.YtmhikkbdhboodaaGreat
open Go.RowKit
set_option linter.unusedVariables false
set_option linter.unusedSimpArgs false

/-- What Run answers: the state, and what each act told. -/
def PostRunR (r:St × List Bool) (base:Nat) (w:World) (e:Ending) (w':World):Prop:=∃ (a:Option Addr) (n c m:Nat) (vb:Value),
  e=.returned (.tuple #[r.1.v a n c,vb])∧LogAt w' a n c r.1.log∧OwnB w' base vb m r.2∧Below base w w'
theorem wpList_bool {ops:Array Oper} {rest:List Oper} {o:Oper} {x0:Act} {Q:Exit→Act→World→Prop} (w:World) (hgd:o.guard=none) (s x:Operand)
    (ho:o.op=.call { callee:=.builtin .append,args := #[s,x],argTypes := #[30,30] })
    (base:Nat) (v:Value) (n:Nat) (bs:List Bool) (hs:x0.eval s=v) (hown:OwnB w base v n bs) (q:Nat) (c:Nat) (u:Bool) (hx:x0.eval x=.slice (some ⟨q,0,none⟩) 1 c) (hcell:w.cell? ⟨q,0,none⟩=some (.bool u)) (hn:n≤1000) (hbase:base≤w.heap.size)
    (h:∀ v' w',OwnB w' base v' (n+1) (bs ++ [u])→w.grownBy w' v.ownBlock→(∀ g,v'.ownBlock=some g→v.ownBlock=some g∨w.heap.size≤g)→wpList Tryz.prog ops Q rest (x0.put o.dst v') w'):wpList Tryz.prog ops Q (o :: rest) x0 w :=
  wpList_plain hgd fun K hK=>wp_bool w s x ho base v n bs hs hown q c u hx hcell hn hbase (fun v' w' h1 h2 h3=>hK _ _ (h v' w' h1 h2 h3))
theorem rrun_walk (k l d b cc:Int) (o:Bool) (at_ level held:Int) (L:List (Int × Int)) (D:St→Ac→St × Bool) (F:Nat→St × List Bool) (G:Nat→Ac) (a:Option Addr) (n c:Nat) (la:Option Addr) (m lc:Nat) (w:World)
    (hdo:∀ (st:St) (x:Ac) (a:Option Addr) (n c:Nat) (W:World),LogAt W a n c st.log→Calls Tryz.prog 28 #[.agg #[.int .i64 k,.int .i64 l,.int .i64 d,.int .i64 b,.int .i64 cc,.bool o],st.v a n c,x.v] W (PostSB a n (D st x) W))
    (h0:F 0=(⟨at_,level,held,L⟩,[])) (hstep:∀ k,k<m→F (k+1)=((D (F k).1 (G k)).1,(F k).2 ++ [(D (F k).1 (G k)).2]))
    (hl:LogAt w a n c L) (hacts:∀ i,i<m→∃ b off,la=some ⟨b,off,none⟩∧w.cell? ⟨b,off+i*3,none⟩=some (.int .i64 (G i).kind)∧w.cell? ⟨b,off+i*3+1,none⟩=some (.int .i64 (G i).now)∧w.cell? ⟨b,off+i*3+2,none⟩=some (.int .i64 (G i).cost)) (hm:m≤1000) :
    Calls Tryz.prog 16 #[.agg #[.int .i64 k,.int .i64 l,.int .i64 d,.int .i64 b,.int .i64 cc,.bool o],.agg #[.int .i64 at_,.int .i64 level,.int .i64 held,.slice a n c],.slice la m lc] w (PostRunR (F m) w.heap.size w):=by
  have hlt0:=log_lt hl
  have HDO:=Go.Lib.hid hdo
  have HL:=Go.Lib.hid hl
  have HACTS:=Go.Lib.hid hacts
  have HSTEP:=Go.Lib.hid hstep
  have H0:=Go.Lib.hid h0
  clear hdo hl hacts hstep h0
  go_enter Tryz.func16,Tryz.ntmps16
  go_wp2_with fail
  skip
  refine wp_abs (S0:=fun X=>(fun w'=>P6 w' (w.heap.size) k l d b cc o (S4 w' (w.heap.size+1) at_ level held a n c (ResB w' (w.heap.size+1)∧ResB w' (w.heap.size+1+1)∧Below w.heap.size w w'))) X∧w.heap.size+3≤X.heap.size) ⟨⟨by go_simp,by go_simp,by go_simp,by go_simp,by go_simp,by go_simp,by go_simp,by go_simp,by go_simp,by go_simp,res_bl (res_new _ _ _ _ _ _ (by simp)) (bl_alloc (bl_refl _) _),res_new _ _ _ _ _ _ (by simp),bl_alloc (bl_alloc (bl_alloc (bl_refl _) _) _) _⟩,by simp⟩ ?_
  rintro w1 ⟨⟨p0,p1,p2,p3,p4,p5,s0,s1,s2,s3,sR,rR,hB⟩,hsz1⟩
  have lb_p:=lbc p0
  have lb_s:=lbc s0
  have hl1:=log_bl HL.out hB
  go_loopw [8,9] (fun s8 s9 wr=>∃ (j:Nat) (a:Option Addr) (n c:Nat),s9=.int .i64 j∧j≤m∧Hid ((fun w'=>P6 w' (w.heap.size) k l d b cc o (w'.cell? ⟨w.heap.size+1,0,none⟩=some (.int .i64 (F j).1.at_)∧w'.cell? ⟨w.heap.size+1,1,none⟩=some (.int .i64 (F j).1.level)∧w'.cell? ⟨w.heap.size+1,2,none⟩=some (.int .i64 (F j).1.held)∧w'.cell? ⟨w.heap.size+1,3,none⟩=some (.slice a n c)∧ResB w' (w.heap.size+1)∧ResB w' (w.heap.size+1+1)∧LogAt w' a n c (F j).1.log∧Below w.heap.size w w')) wr∧Off a n (w.heap.size+1)∧Off a n (w.heap.size+1+1)∧OwnB wr (w.heap.size+1+1+1) s8 j (F j).2∧Apt a n s8)) (fun _ s9 _=>m - (intOf s9).toNat)
  case atStart =>
    refine⟨0,a,n,c,rfl,Nat.zero_le _,⟨?_,(fun ad e hn=>by have:=hlt0 ad e hn;omega),(fun ad e hn=>by have:=hlt0 ad e hn;omega),?_,.inr (fun ad e g hg=>by cases hg)⟩⟩
    · rw[H0.out]
      exact⟨p0,p1,p2,p3,p4,p5,s0,s1,s2,s3,sR,rR,hl1,hB⟩
    · rw[H0.out]
      exact⟨rfl,.inl ⟨rfl,rfl⟩⟩
  case round =>
    clear p0 p1 p2 p3 p4 p5 s0 s1 s2 s3 sR rR hl1 hB
    obtain⟨j,a,n,c,rfl,hj,H⟩:=hrel
    obtain⟨⟨p0,p1,p2,p3,p4,p5,s0,s1,s2,s3,sR,rR,hLs,hB⟩,hO1,hO2,hOb,hAp⟩:=H.out
    clear H
    by_cases hjm:j<m
    · obtain ⟨xb,xo,hla,q0,q1,q2⟩:=HACTS.out j hjm
      subst hla
      have x0:=bl_cell hB q0
      have x1:=bl_cell hB q1
      have x2:=bl_cell hB q2
      clear q0 q1 q2
      have hst:=HSTEP.out j hjm
      have hd1:=HDO.out (F j).1 (G j)
      generalize G j=x at *
      generalize hFj:F j=st at *
      obtain⟨st,ob⟩:=st
      dsimp only at *
      generalize D st x=R at *
      obtain⟨ak,anow,acost⟩:=x
      obtain⟨sa,sl,sh,sL⟩:=st
      obtain⟨⟨ra,rl,rh,rL⟩,rok⟩:=R
      unfold PostSB at hd1
      unfold Ac.v St.v at hd1
      dsimp only at *
      have HDA:=Go.Lib.hid hd1
      have HNX:=Go.Lib.hid hst
      have HOB:=Go.Lib.hid hOb
      have HAP:=Go.Lib.hid hAp
      have hne:=fun gg hgg=>World.ownsRow.lt hOb gg hgg
      have HNE:=Go.Lib.hid hne
      clear hd1 hst hFj hOb hAp hne
      have k0:(0:Int)≤(j:Int):=by omega
      have k1:(j:Int)<(m:Int):=by omega
      have hj1:j+1≤m:=hjm
      have hms:m - (j+1)<m - j:=by omega
      have wj:IntKind.i64.wrap ((j:Int)+1)=(j:Int)+1:=IntWalk.i64_in _ (by omega)
      have hwB:=hB.size
      have hW:=bl_refl wr
      have l0:=World.block_lt_of_cell? _ _ p0
      have l1:=World.block_lt_of_cell? _ _ s0
      have l2:=res_lt rR
      dsimp only at l0 l1
      have lb_p:=lbc p0
      have lb_s:=lbc s0
      have lb_x:=lbc x0
      go_wp2_with go_step3
      refine wp_region_held_drew (S:=fun w'=>P6 w' (w.heap.size) k l d b cc o (S4 w' (w.heap.size+1) sa sl sh a n c (ResB w' (w.heap.size+1)∧ResB w' (w.heap.size+1+1)∧LogAt w' a n c sL∧w'.cell? ⟨xb,xo+j*3,none⟩=some (.int .i64 ak)∧w'.cell? ⟨xb,xo+j*3+1,none⟩=some (.int .i64 anow)∧w'.cell? ⟨xb,xo+j*3+2,none⟩=some (.int .i64 acost)∧Below wr.heap.size wr w'∧Below w.heap.size w w'))) (by kernel_rfl) ?_ (fun hHeld=>?_)
      · exact⟨p0,p1,p2,p3,p4,p5,s0,s1,s2,s3,sR,rR,hLs,x0,x1,x2,bl_drew hW,bl_drew hB⟩
      try simp only[Act.put,List.setIfInBounds_toArray,List.set_cons_zero,List.set_cons_succ]
      clear hB p0 p1 p2 p3 p4 p5 s0 s1 s2 s3 sR rR hLs x0 x1 x2 hW
      refine wpAnyH_abs (F:=fun _=>True) hHeld trivial ?_
      clear hHeld
      rintro X0 hHeld -
      refine tkx 0 ?_
      refine tkx 1 ?_
      refine tkx 2 ?_
      refine tkx 3 ?_
      refine tkx 4 ?_
      refine tkx 5 ?_
      refine callC2 (i:=6) (j:=10) rfl rfl ?_ ?_
      case' refine_1 =>
        intro K hK
        obtain⟨h_p0,h_p1,h_p2,h_p3,h_p4,h_p5,h_s0,h_s1,h_s2,h_s3,h_sR,h_rR,h_hLs,h_x0,h_x1,h_x2,h_hW,h_B⟩:=(id hHeld)
        go_simp
        refine(HDA.out _ _ _ _ h_hLs).mono ?_
        rintro e X6 ⟨a3,n3,c3,rfl,hLu,hSr,hb⟩
        have hP1:=off_src hO1 hSr (World.block_lt_of_cell? _ _ h_s0)
        have hP2:=off_src hO2 hSr (res_lt h_rR)
        have hAp3:=apt_src HAP.out hSr (ownsRow_bl HOB.out h_hW)
        have hFr:=hSr
        have HAQ:=Go.Lib.hid (And.intro hP1 (And.intro hP2 hAp3))
        clear hSr hP1 hP2 hAp3
        go_wp2_with fail
        refine hK.out _ _ ?_ (fun hHeld2=>?_)
        · (try dsimp only);exact⟨bl_cell hb h_p0,bl_cell hb h_p1,bl_cell hb h_p2,bl_cell hb h_p3,bl_cell hb h_p4,bl_cell hb h_p5,bl_cell hb h_s0,bl_cell hb h_s1,bl_cell hb h_s2,bl_cell hb h_s3,res_bl h_sR hb,res_bl h_rR hb,log_bl h_hLs hb,bl_cell hb h_x0,bl_cell hb h_x1,bl_cell hb h_x2,bl_then h_hW hb,bl_then h_B hb⟩
        clear hHeld hK K h_p0 h_p1 h_p2 h_p3 h_p4 h_p5 h_s0 h_s1 h_s2 h_s3 h_sR h_rR h_hLs h_x0 h_x1 h_x2 h_hW h_B hb
        have hHeld:=hHeld2
        clear hHeld2
        try simp only[Act.put,List.setIfInBounds_toArray,List.set_cons_zero,List.set_cons_succ]
        refine tkx 7 ?_
        refine tkx 8 ?_
        refine tkx 9 ?_
        refine callC (i:=10) rfl (fun K hK=>?_)
        obtain⟨h_p0,h_p1,h_p2,h_p3,h_p4,h_p5,h_s0,h_s1,h_s2,h_s3,h_sR,h_rR,h_hLs,h_x0,h_x1,h_x2,h_hW,h_B⟩:=(id hHeld)
        go_simp
        refine hK.out _ _ ?_ (fun hHeld2=>?_)
        · (try dsimp only);exact⟨bl_cell (bl_alloc (bl_refl _) _) h_p0,bl_cell (bl_alloc (bl_refl _) _) h_p1,bl_cell (bl_alloc (bl_refl _) _) h_p2,bl_cell (bl_alloc (bl_refl _) _) h_p3,bl_cell (bl_alloc (bl_refl _) _) h_p4,bl_cell (bl_alloc (bl_refl _) _) h_p5,bl_cell (bl_alloc (bl_refl _) _) h_s0,bl_cell (bl_alloc (bl_refl _) _) h_s1,bl_cell (bl_alloc (bl_refl _) _) h_s2,bl_cell (bl_alloc (bl_refl _) _) h_s3,res_bl h_sR (bl_alloc (bl_refl _) _),res_bl h_rR (bl_alloc (bl_refl _) _),log_bl h_hLs (bl_alloc (bl_refl _) _),bl_cell (bl_alloc (bl_refl _) _) h_x0,bl_cell (bl_alloc (bl_refl _) _) h_x1,bl_cell (bl_alloc (bl_refl _) _) h_x2,bl_then h_hW (bl_alloc (bl_refl _) _),bl_alloc h_B _⟩
        have rn0:=World.block_lt_of_cell? _ _ h_p0
        have rn1:=World.block_lt_of_cell? _ _ h_s0
        have rn2:=World.block_lt_of_cell? _ _ h_x0
        have LT_hLs:=log_lt h_hLs
        dsimp only at rn0 rn1 rn2
        have rB:=h_B.size
        have rW_hW:=h_hW.size
        have hne:=log_lt hLu
        replace hLu:=log_bl hLu (bl_alloc (bl_refl _) (.cells #[.int .i64 0,.int .i64 0,.int .i64 0,.slice none 0 0] 26))
        clear hHeld hK K h_p0 h_p1 h_p2 h_p3 h_p4 h_p5 h_s0 h_s1 h_s2 h_s3 h_sR h_rR h_hLs h_x0 h_x1 h_x2 h_hW h_B
        have hHeld:=hHeld2
        clear hHeld2
        try simp only[Act.put,List.setIfInBounds_toArray,List.set_cons_zero,List.set_cons_succ]
        refine wpAnyH_abs (F:=fun X=>ResB X X6.heap.size∧LogAt X a3 n3 c3 rL) hHeld ⟨res_new _ _ _ _ _ _ rfl,hLu⟩ ?_
        clear hHeld hLu
        generalize X6.heap.size=ru at *
        replace hne:=fun ad e hn=>Nat.ne_of_lt (hne ad e hn)
        rintro X10 hHeld ⟨hRes,hLu⟩
        refine callC (i:=11) rfl (fun K hK=>?_)
        obtain⟨h_p0,h_p1,h_p2,h_p3,h_p4,h_p5,h_s0,h_s1,h_s2,h_s3,h_sR,h_rR,h_hLs,h_x0,h_x1,h_x2,h_hW,h_B⟩:=(id hHeld)
        obtain⟨f0,f1,f2,f3,u0,u1,u2,u3,i0,i1,i2,i3⟩:=res_all hRes
        go_simp
        refine hK.out _ _ ?_ (fun hHeld2=>?_)
        · (try dsimp only);exact⟨far4 h_p0 (by dsimp only;omega),far4 h_p1 (by dsimp only;omega),far4 h_p2 (by dsimp only;omega),far4 h_p3 (by dsimp only;omega),far4 h_p4 (by dsimp only;omega),far4 h_p5 (by dsimp only;omega),far4 h_s0 (by dsimp only;omega),far4 h_s1 (by dsimp only;omega),far4 h_s2 (by dsimp only;omega),far4 h_s3 (by dsimp only;omega),res4 h_sR,res4 h_rR,log_set4 h_hLs (fun ad e hn=>by have:=LT_hLs ad e hn;omega),far4 h_x0 (by dsimp only;omega),far4 h_x1 (by dsimp only;omega),far4 h_x2 (by dsimp only;omega),bl4 h_hW (by omega),bl4 h_B (by omega)⟩
        obtain⟨z0,z1,z2,z3⟩:=set4r (v0:=.int .i64 ra) (v1:=.int .i64 rl) (v2:=.int .i64 rh) (v3:=.slice a3 n3 c3) hRes
        replace hLu:=log_set4 (b:=ru) (v0:=.int .i64 ra) (v1:=.int .i64 rl) (v2:=.int .i64 rh) (v3:=.slice a3 n3 c3) hLu hne
        replace hRes:=res4 (b:=ru) (v0:=.int .i64 ra) (v1:=.int .i64 rl) (v2:=.int .i64 rh) (v3:=.slice a3 n3 c3) hRes
        clear hHeld hK K h_p0 h_p1 h_p2 h_p3 h_p4 h_p5 h_s0 h_s1 h_s2 h_s3 h_sR h_rR h_hLs h_x0 h_x1 h_x2 h_hW h_B f0 f1 f2 f3 i0 i1 i2 i3 u0 u1 u2 u3
        have hHeld:=hHeld2
        clear hHeld2
        try simp only[Act.put,List.setIfInBounds_toArray,List.set_cons_zero,List.set_cons_succ]
        refine tkx 12 ?_
        refine wpAnyH_done (by kernel_rfl) ?_ _
        refine then_abs (F:=fun X=>(fun w'=>P6 w' (w.heap.size) k l d b cc o (S4 w' (w.heap.size+1) sa sl sh a n c (ResB w' (w.heap.size+1)∧ResB w' (w.heap.size+1+1)∧LogAt w' a n c sL∧w'.cell? ⟨xb,xo+j*3,none⟩=some (.int .i64 ak)∧w'.cell? ⟨xb,xo+j*3+1,none⟩=some (.int .i64 anow)∧w'.cell? ⟨xb,xo+j*3+2,none⟩=some (.int .i64 acost)∧Below wr.heap.size wr w'∧Below w.heap.size w w'))) X∧S4 X ru ra rl rh a3 n3 c3 (ResB X ru∧LogAt X a3 n3 c3 rL)) ⟨hHeld,z0,z1,z2,z3,hRes,hLu⟩ ?_
        clear hHeld z0 z1 z2 z3 hRes hLu
      case' refine_2 =>
        intro K hK
        obtain⟨h_p0,h_p1,h_p2,h_p3,h_p4,h_p5,h_s0,h_s1,h_s2,h_s3,h_sR,h_rR,h_hLs,h_x0,h_x1,h_x2,h_hW,h_B⟩:=(id hHeld)
        go_simp
        refine hK.out _ _ ?_ (fun hHeld2=>?_)
        · (try dsimp only);exact⟨bl_cell (bl_alloc (bl_refl _) _) h_p0,bl_cell (bl_alloc (bl_refl _) _) h_p1,bl_cell (bl_alloc (bl_refl _) _) h_p2,bl_cell (bl_alloc (bl_refl _) _) h_p3,bl_cell (bl_alloc (bl_refl _) _) h_p4,bl_cell (bl_alloc (bl_refl _) _) h_p5,bl_cell (bl_alloc (bl_refl _) _) h_s0,bl_cell (bl_alloc (bl_refl _) _) h_s1,bl_cell (bl_alloc (bl_refl _) _) h_s2,bl_cell (bl_alloc (bl_refl _) _) h_s3,res_bl h_sR (bl_alloc (bl_refl _) _),res_bl h_rR (bl_alloc (bl_refl _) _),log_bl h_hLs (bl_alloc (bl_refl _) _),bl_cell (bl_alloc (bl_refl _) _) h_x0,bl_cell (bl_alloc (bl_refl _) _) h_x1,bl_cell (bl_alloc (bl_refl _) _) h_x2,bl_then h_hW (bl_alloc (bl_refl _) _),bl_alloc h_B _⟩
        have rn0:=World.block_lt_of_cell? _ _ h_p0
        have rn1:=World.block_lt_of_cell? _ _ h_s0
        have rn2:=World.block_lt_of_cell? _ _ h_x0
        have LT_hLs:=log_lt h_hLs
        dsimp only at rn0 rn1 rn2
        have rB:=h_B.size
        have rW_hW:=h_hW.size
        clear hHeld hK K h_p0 h_p1 h_p2 h_p3 h_p4 h_p5 h_s0 h_s1 h_s2 h_s3 h_sR h_rR h_hLs h_x0 h_x1 h_x2 h_hW h_B
        have hHeld:=hHeld2
        clear hHeld2
        try simp only[Act.put,List.setIfInBounds_toArray,List.set_cons_zero,List.set_cons_succ]
        refine wpAnyH_abs (F:=fun X=>ResB X X0.heap.size) hHeld (res_new _ _ _ _ _ _ rfl) ?_
        clear hHeld
        generalize X0.heap.size=ru at *
        rintro X6 hHeld hRes
        refine callC (i:=6) rfl (fun K hK=>?_)
        obtain⟨h_p0,h_p1,h_p2,h_p3,h_p4,h_p5,h_s0,h_s1,h_s2,h_s3,h_sR,h_rR,h_hLs,h_x0,h_x1,h_x2,h_hW,h_B⟩:=(id hHeld)
        go_simp
        refine(HDA.out _ _ _ _ h_hLs).mono ?_
        rintro e X7 ⟨a3,n3,c3,rfl,hLu,hSr,hb⟩
        have hP1:=off_src hO1 hSr (World.block_lt_of_cell? _ _ h_s0)
        have hP2:=off_src hO2 hSr (res_lt h_rR)
        have hAp3:=apt_src HAP.out hSr (ownsRow_bl HOB.out h_hW)
        have hFr:=hSr
        have HAQ:=Go.Lib.hid (And.intro hP1 (And.intro hP2 hAp3))
        clear hSr hP1 hP2 hAp3
        go_wp2_with fail
        refine hK.out _ _ ?_ (fun hHeld2=>?_)
        · (try dsimp only);exact⟨bl_cell hb h_p0,bl_cell hb h_p1,bl_cell hb h_p2,bl_cell hb h_p3,bl_cell hb h_p4,bl_cell hb h_p5,bl_cell hb h_s0,bl_cell hb h_s1,bl_cell hb h_s2,bl_cell hb h_s3,res_bl h_sR hb,res_bl h_rR hb,log_bl h_hLs hb,bl_cell hb h_x0,bl_cell hb h_x1,bl_cell hb h_x2,bl_then h_hW hb,bl_then h_B hb⟩
        have hrl:=res_lt hRes
        have hne:∀ ad,a3=some ad→n3≠0→ad.block≠ru:=fun ad e hn=>by rcases hFr with h|⟨rfl,rfl⟩|h;exact absurd h hn;exact Nat.ne_of_lt (LT_hLs ad e hn);have:=h ad e;omega
        clear hrl
        replace hRes:=res_bl hRes hb
        clear hHeld hK K h_p0 h_p1 h_p2 h_p3 h_p4 h_p5 h_s0 h_s1 h_s2 h_s3 h_sR h_rR h_hLs h_x0 h_x1 h_x2 h_hW h_B hb
        have hHeld:=hHeld2
        clear hHeld2
        try simp only[Act.put,List.setIfInBounds_toArray,List.set_cons_zero,List.set_cons_succ]
        refine tkx 7 ?_
        refine tkx 8 ?_
        refine tkx 9 ?_
        refine callC (i:=11) rfl (fun K hK=>?_)
        obtain⟨h_p0,h_p1,h_p2,h_p3,h_p4,h_p5,h_s0,h_s1,h_s2,h_s3,h_sR,h_rR,h_hLs,h_x0,h_x1,h_x2,h_hW,h_B⟩:=(id hHeld)
        obtain⟨f0,f1,f2,f3,u0,u1,u2,u3,i0,i1,i2,i3⟩:=res_all hRes
        go_simp
        refine hK.out _ _ ?_ (fun hHeld2=>?_)
        · (try dsimp only);exact⟨far4 h_p0 (by dsimp only;omega),far4 h_p1 (by dsimp only;omega),far4 h_p2 (by dsimp only;omega),far4 h_p3 (by dsimp only;omega),far4 h_p4 (by dsimp only;omega),far4 h_p5 (by dsimp only;omega),far4 h_s0 (by dsimp only;omega),far4 h_s1 (by dsimp only;omega),far4 h_s2 (by dsimp only;omega),far4 h_s3 (by dsimp only;omega),res4 h_sR,res4 h_rR,log_set4 h_hLs (fun ad e hn=>by have:=LT_hLs ad e hn;omega),far4 h_x0 (by dsimp only;omega),far4 h_x1 (by dsimp only;omega),far4 h_x2 (by dsimp only;omega),bl4 h_hW (by omega),bl4 h_B (by omega)⟩
        obtain⟨z0,z1,z2,z3⟩:=set4r (v0:=.int .i64 ra) (v1:=.int .i64 rl) (v2:=.int .i64 rh) (v3:=.slice a3 n3 c3) hRes
        replace hLu:=log_set4 (b:=ru) (v0:=.int .i64 ra) (v1:=.int .i64 rl) (v2:=.int .i64 rh) (v3:=.slice a3 n3 c3) hLu hne
        replace hRes:=res4 (b:=ru) (v0:=.int .i64 ra) (v1:=.int .i64 rl) (v2:=.int .i64 rh) (v3:=.slice a3 n3 c3) hRes
        clear hHeld hK K h_p0 h_p1 h_p2 h_p3 h_p4 h_p5 h_s0 h_s1 h_s2 h_s3 h_sR h_rR h_hLs h_x0 h_x1 h_x2 h_hW h_B f0 f1 f2 f3 i0 i1 i2 i3 u0 u1 u2 u3
        have hHeld:=hHeld2
        clear hHeld2
        try simp only[Act.put,List.setIfInBounds_toArray,List.set_cons_zero,List.set_cons_succ]
        refine tkx 12 ?_
        refine wpAnyH_done (by kernel_rfl) ?_ _
        refine then_abs (F:=fun X=>(fun w'=>P6 w' (w.heap.size) k l d b cc o (S4 w' (w.heap.size+1) sa sl sh a n c (ResB w' (w.heap.size+1)∧ResB w' (w.heap.size+1+1)∧LogAt w' a n c sL∧w'.cell? ⟨xb,xo+j*3,none⟩=some (.int .i64 ak)∧w'.cell? ⟨xb,xo+j*3+1,none⟩=some (.int .i64 anow)∧w'.cell? ⟨xb,xo+j*3+2,none⟩=some (.int .i64 acost)∧Below wr.heap.size wr w'∧Below w.heap.size w w'))) X∧S4 X ru ra rl rh a3 n3 c3 (ResB X ru∧LogAt X a3 n3 c3 rL)) ⟨hHeld,z0,z1,z2,z3,hRes,hLu⟩ ?_
        clear hHeld z0 z1 z2 z3 hRes hLu
      all_goals rintro w31 ⟨⟨p0,p1,p2,p3,p4,p5,s0,s1,s2,s3,sR,rR,hLs,x0,x1,x2,hW,hB⟩,u0,u1,u2,u3,uR,hLu⟩
      all_goals
        clear hFr
        have lb_p:=lbc p0
        have lb_s:=lbc s0
        have lb_x:=lbc x0
        have lb_u:=lbc u0
        clear hLs x0 x1 x2
        obtain⟨fa0,fa1,fa2,fa3,ua0,ua1,ua2,ua3,ia0,ia1,ia2,ia3⟩:=res_all sR
        obtain⟨hP1,hP2,hAp3⟩:=HAQ.out
        have hsw:=hW.size
        have hob:=ownsRow_set4 (b:=w.heap.size+1) (v0:=.int .i64 ra) (v1:=.int .i64 rl) (v2:=.int .i64 rh) (v3:=.slice a3 n3 c3) (ownsRow_bl HOB.out hW) (by omega)
        have HOC:=Go.Lib.hid hob
        clear hob
        go_wp2_with (at_builtin;refine wpList_bool _ rfl _ _ rfl (w.heap.size+1+1+1) u8 j ob rfl (ownsRow_bl HOC.out (bl_alloc (bl_refl _) _)) w31.heap.size _ rok rfl ?q1 ?q2 ?q3 ?_)
        case q1=>go_simp
        case q2=>omega
        case q3=>(simp;omega)
        intro v5 w5 ho5 hg5 hv5
        have hnz:∀ gg,Value.ownBlock u8=some gg→w.heap.size+1+1+1≤gg:=fun gg hgg=>(HNE.out gg hgg).1
        have hb5:=bl_alloc (bl_refl ((((w31.setCell ⟨w.heap.size+1,0,none⟩ (.int .i64 ra)).setCell ⟨w.heap.size+1,1,none⟩ (.int .i64 rl)).setCell ⟨w.heap.size+1,2,none⟩ (.int .i64 rh)).setCell ⟨w.heap.size+1,3,none⟩ (.slice a3 n3 c3))) (.cells #[.bool rok] 4)
        obtain⟨z0,z1,z2,z3⟩:=set4r (v0:=.int .i64 ra) (v1:=.int .i64 rl) (v2:=.int .i64 rh) (v3:=.slice a3 n3 c3) sR
        replace p0:=grown_cell hg5 (bl_cell hb5 (far4 (b:=w.heap.size+1) (v0:=.int .i64 ra) (v1:=.int .i64 rl) (v2:=.int .i64 rh) (v3:=.slice a3 n3 c3) p0 (by dsimp only;omega))) (by intro he;have:=hnz _ he.symm;omega)
        replace p1:=grown_cell hg5 (bl_cell hb5 (far4 (b:=w.heap.size+1) (v0:=.int .i64 ra) (v1:=.int .i64 rl) (v2:=.int .i64 rh) (v3:=.slice a3 n3 c3) p1 (by dsimp only;omega))) (by intro he;have:=hnz _ he.symm;omega)
        replace p2:=grown_cell hg5 (bl_cell hb5 (far4 (b:=w.heap.size+1) (v0:=.int .i64 ra) (v1:=.int .i64 rl) (v2:=.int .i64 rh) (v3:=.slice a3 n3 c3) p2 (by dsimp only;omega))) (by intro he;have:=hnz _ he.symm;omega)
        replace p3:=grown_cell hg5 (bl_cell hb5 (far4 (b:=w.heap.size+1) (v0:=.int .i64 ra) (v1:=.int .i64 rl) (v2:=.int .i64 rh) (v3:=.slice a3 n3 c3) p3 (by dsimp only;omega))) (by intro he;have:=hnz _ he.symm;omega)
        replace p4:=grown_cell hg5 (bl_cell hb5 (far4 (b:=w.heap.size+1) (v0:=.int .i64 ra) (v1:=.int .i64 rl) (v2:=.int .i64 rh) (v3:=.slice a3 n3 c3) p4 (by dsimp only;omega))) (by intro he;have:=hnz _ he.symm;omega)
        replace p5:=grown_cell hg5 (bl_cell hb5 (far4 (b:=w.heap.size+1) (v0:=.int .i64 ra) (v1:=.int .i64 rl) (v2:=.int .i64 rh) (v3:=.slice a3 n3 c3) p5 (by dsimp only;omega))) (by intro he;have:=hnz _ he.symm;omega)
        replace s0:=grown_cell hg5 (bl_cell hb5 z0) (by intro he;have:=hnz _ he.symm;omega)
        replace s1:=grown_cell hg5 (bl_cell hb5 z1) (by intro he;have:=hnz _ he.symm;omega)
        replace s2:=grown_cell hg5 (bl_cell hb5 z2) (by intro he;have:=hnz _ he.symm;omega)
        replace s3:=grown_cell hg5 (bl_cell hb5 z3) (by intro he;have:=hnz _ he.symm;omega)
        replace sR:=grown_res hg5 (res_bl (res4 (b:=w.heap.size+1) (v0:=.int .i64 ra) (v1:=.int .i64 rl) (v2:=.int .i64 rh) (v3:=.slice a3 n3 c3) sR) hb5) (by intro he;have:=hnz _ he.symm;omega)
        replace rR:=grown_res hg5 (res_bl (res4 (b:=w.heap.size+1) (v0:=.int .i64 ra) (v1:=.int .i64 rl) (v2:=.int .i64 rh) (v3:=.slice a3 n3 c3) rR) hb5) (by intro he;have:=hnz _ he.symm;omega)
        replace hLu:=log_bl (log_set4 (b:=w.heap.size+1) (v0:=.int .i64 ra) (v1:=.int .i64 rl) (v2:=.int .i64 rh) (v3:=.slice a3 n3 c3) hLu hP1) hb5
        have hlt3:=log_lt hLu
        have hAp5:Apt a3 n3 v5:=by
          by_cases hz:n3=0
          · exact .inl hz
          rcases hAp3 with h|h
          · exact .inl h
          · refine .inr fun ad e g hg=>?_
            rcases hv5 g hg with hh|hh
            · exact h ad e g hh
            · intro he
              have h8:=hlt3 ad e hz
              rw[← he] at h8
              exact absurd h8 (Nat.not_lt.2 (by simpa using hh))
        replace hLu:=log_grown hLu hg5 hAp3
        replace hB:=Below.grown (bl_then (bl4 (b:=w.heap.size+1) (v0:=.int .i64 ra) (v1:=.int .i64 rl) (v2:=.int .i64 rh) (v3:=.slice a3 n3 c3) hB (by omega)) hb5) hg5 (by simp;omega) (fun gg hgg=>by have:=hnz gg hgg;omega)
        go_wp2_with go_step3
        go_roundw
        case rel =>
          refine⟨j+1,a3,n3,c3,by go_num,hj1,⟨?_,hP1,hP2,?_,hAp5⟩⟩
          · rw[HNX.out]
            exact⟨p0,p1,p2,p3,p4,p5,s0,s1,s2,s3,sR,rR,hLu,hB⟩
          · rw[HNX.out]
            exact ho5
        case measure=>(simp[intOf];first|exact hms|omega)
    · have hje:j=m:=by omega
      subst hje
      generalize F j=R at *
      obtain⟨⟨rat,rlv,rhd,rL⟩,bs⟩:=R
      dsimp only at *
      obtain⟨f0,f1,f2,f3,u0,u1,u2,u3,i0,i1,i2,i3⟩:=res_all rR
      have lR:=res_lt rR
      have HOB:=Go.Lib.hid hOb
      clear hOb
      go_wp2_with go_step3
      (try simp only[Exit.inBlock,Exit.then])
      exact bodyPost_ret (results_state2 rfl _ _ (by rfl) (set4r rR)) rfl ⟨a,n,c,j,u8,rfl,log_set4 hLs hO2,rowMono (ownsRow_set4 HOB.out (by omega)) (by omega),bl4 hB (by omega)⟩
theorem rrun_any (p:Pol) (s:St) (l:List Ac) (a:Option Addr) (n c:Nat) (la:Option Addr) (m lc:Nat) (w:World) (hl:LogAt w a n c s.log) (hacts:ActsIn w la m lc l) (hm:m≤1000) :
    Calls Tryz.prog 16 #[p.v,s.v a n c,.slice la m lc] w (PostRunR (runP p s l) w.heap.size w):=by
  have h:=rrun_walk p.kind p.limit p.period p.burst p.cap p.opn s.at_ s.level s.held s.log (doP p) (fun k=>runP p s (l.take k)) (fun k=>l.getD k ⟨0,0,0⟩) a n c la m lc w (fun st x a n c W hW=>r8do_any p st a n c x W hW) rfl
    (fun k hk=>runP_take p s l k (by rw[hacts.1];exact hk)) hl hacts.2.2.2 hm
  have e:l.take m=l:=by rw[← hacts.1,List.take_length]
  have e2:runP p s (l.take m)=runP p s l:=by rw[e]
  rw[← e2]
  exact h
end Go.Proofs.YtmhikkbdhboodaaGreat

namespace Go.Proofs.YtmhikkbdhboodaaGreat
open Go.RowKit
set_option linter.unusedVariables false
set_option linter.unusedSimpArgs false

/-- Answers in memory. -/
def BoolsAt (w:World) (a:Option Addr) (n:Nat) (bs:List Bool):Prop :=
  bs.length=n∧∀ i,i<n→∃ b,a=some ⟨b,0,none⟩∧w.cell? ⟨b,i,none⟩=some (.bool (bs.getD i false))
theorem bools_bl {w w':World} {a:Option Addr} {n:Nat} {bs:List Bool} (h:BoolsAt w a n bs) (hb:Below w.heap.size w w'):BoolsAt w' a n bs :=
  ⟨h.1,fun i hi=>by
    obtain⟨b,e,h1⟩:=h.2 i hi
    exact⟨b,e,bl_cell hb h1⟩⟩
theorem own_bools {w:World} {base m:Nat} {v:Value} {bs:List Bool} (h:OwnB w base v m bs):∃ a c,v=.slice a m c∧BoolsAt w a m bs:=by
  have hm:bs.length=m:=by have:=h.1;simpa using this
  rcases h.2 with⟨e,hx⟩|⟨g,cap,cur,rfl,h2,h3,h4⟩
  · have h0:m=0:=by simpa using hx
    subst h0
    have hz:bs=[]:=List.length_eq_zero_iff.1 hm
    subst hz
    exact⟨none,0,e,rfl,fun i hi=>absurd hi (Nat.not_lt_zero _)⟩
  · refine⟨_,cap,rfl,hm,fun i hi=>⟨g,rfl,?_⟩⟩
    have hj:i<m*1:=by omega
    have h5:=World.ownsRow.cellAt h i hj
    rw[h5]
    simp[List.getD_eq_getElem?_getD,List.getElem?_eq_getElem (show i<bs.length by omega)]
end Go.Proofs.YtmhikkbdhboodaaGreat

namespace Go.Proofs.YtmhikkbdhboodaaGreat
open Go.RowKit
set_option linter.unusedVariables false
set_option linter.unusedSimpArgs false

theorem up_self (a:Int):up a a=a:=by unfold up;split <;> omega
theorem room_newB {p:Pol} (h:okB p):roomB p (newB p 0) 0=p.burst:=by
  have hcl:=clampT_range 0
  have e:newB p 0=⟨clampT 0,p.burst*p.period,0,[]⟩:=by unfold newB;rw[if_pos h]
  have h':=h
  obtain⟨q0,q1,q2,q3,q4,q5,q6,q7⟩:=h
  have hm:0≤p.burst*p.period:=Int.mul_nonneg (by omega) (by omega)
  have hR:rightB p ⟨clampT 0,p.burst*p.period,0,[]⟩:=⟨h',hcl.1,hcl.2,by dsimp only;omega,by dsimp only;omega,hm,by dsimp only;rw[Int.sub_zero];exact Int.le_refl _,rfl⟩
  unfold roomB
  rw[e,if_pos hR]
  unfold advB
  rw[if_pos hR]
  dsimp only
  rw[up_self,Int.sub_self,Int.mul_zero,Int.sub_zero,Int.sub_self,show dn 0 0=0 by unfold dn;simp,Int.add_zero]
  exact Int.mul_ediv_cancel _ (by omega)
theorem room_newG {p:Pol} (h:okG p):roomG p (newG p 0) 0=p.burst:=by
  have hcl:=clampT_range 0
  have e:newG p 0=⟨clampT 0,0,0,[]⟩:=by unfold newG;rw[if_pos h]
  have h':=h
  obtain⟨q0,q1,q2,q3,q4,q5,q6,q7⟩:=h
  have hm:0≤p.burst*p.period:=Int.mul_nonneg (by omega) (by omega)
  have hR:rightG p ⟨clampT 0,0,0,[]⟩:=by
    refine⟨h',hcl.1,hcl.2,by dsimp only;omega,by dsimp only;omega,?_,by dsimp only;omega,rfl⟩
    dsimp only;rw[Int.zero_mul];exact Int.le_refl _
  unfold roomG
  rw[e,if_pos hR]
  unfold advG
  rw[if_pos hR]
  dsimp only
  rw[up_self,Int.sub_self,Int.zero_mul,Int.sub_zero,Int.zero_mul,up_self,Int.sub_zero]
  exact Int.mul_ediv_cancel _ (by omega)
theorem room_newC {p:Pol} (h:okC p):roomC p (newC p 0) 0=p.limit:=by
  have hcl:=clampT_range 0
  have e:newC p 0=⟨clampT 0,0,0,[]⟩:=by unfold newC;rw[if_pos h]
  have h':=h
  obtain⟨q0,q1,q2,q3,q4,q5,q6⟩:=h
  have hR:rightC p ⟨clampT 0,0,0,[]⟩:=⟨h',hcl.1,hcl.2,by dsimp only;omega,by dsimp only;omega,by dsimp only;omega,by dsimp only;omega,by dsimp only;omega,rfl⟩
  unfold roomC
  rw[e,if_pos hR]
  unfold advC
  rw[if_pos hR]
  dsimp only
  split <;> omega
theorem room_newL {p:Pol} (h:okL p):roomL p (newL p 0) 0=p.limit:=by
  have hcl:=clampT_range 0
  have e:newL p 0=⟨clampT 0,0,0,[]⟩:=by unfold newL;rw[if_pos h]
  have h':=h
  obtain⟨q0,q1,q2,q3,q4,q5,q6,q7⟩:=h
  have hR:rightL p ⟨clampT 0,0,0,[]⟩:=⟨h',hcl.1,hcl.2,by dsimp only;omega,by dsimp only;omega,rfl,trivial,by dsimp only[List.length];omega,by dsimp only[sumL];omega⟩
  unfold roomL
  rw[e,if_pos hR]
  unfold advL
  rw[if_pos hR]
  show p.limit - 0 - sumL []=p.limit
  simp[sumL]
/-- The greatest cost, both ways. -/
theorem most_cap (p:Pol):(if chkP p=0 then capP p else 0)=mostP p:=by
  unfold mostP
  by_cases h:chkP p=0
  · rw [if_pos h,if_pos h]
    unfold roomP newP capP
    unfold chkP at h
    by_cases k2:p.kind=2
    · rw[if_pos k2] at h
      rw[if_pos k2,if_pos k2,if_pos (by omega)]
      by_cases z:okG p
      · exact(room_newG z).symm
      · unfold chkG at h;rw[if_neg z] at h;omega
    rw[if_neg k2] at h
    rw[if_neg k2,if_neg k2]
    by_cases k3:p.kind=3
    · rw[if_pos k3] at h
      rw[if_pos k3,if_pos k3,if_neg (by omega)]
      by_cases z:okL p
      · exact(room_newL z).symm
      · unfold chkL at h;rw[if_neg z] at h;omega
    rw[if_neg k3] at h
    rw[if_neg k3,if_neg k3]
    by_cases k4:p.kind=4
    · rw[if_pos k4] at h
      rw[if_pos k4,if_pos k4,if_neg (by omega)]
      by_cases z:okC p
      · exact(room_newC z).symm
      · unfold chkC at h;rw[if_neg z] at h;omega
    rw[if_neg k4] at h
    rw[if_neg k4,if_neg k4]
    by_cases z:okB p
    · rw[if_pos (by have:=z.1;omega)]
      exact(room_newB z).symm
    · unfold chkB at h;rw[if_neg z] at h;omega
  · rw[if_neg h,if_neg h]
end Go.Proofs.YtmhikkbdhboodaaGreat

namespace Go.Proofs.YtmhikkbdhboodaaGreat
open Go.RowKit
set_option linter.unusedVariables false
set_option linter.unusedSimpArgs false

theorem runs_long1 (p:Pol) (s:St) (a:Option Addr) (n c:Nat) (la:Option Addr) (m lc:Nat) (acts:List Ac) (now:Int) (w:World) (hm:¬ (m:Int)≤60) :
    Calls Tryz.prog 3 #[p.v,s.v a n c,.slice la m lc,.int .i64 now] w fun e w'=>e=.returned (.bool true)∧Below w.heap.size w w':=by
  have hkn:=known_yes
  have hsm:=small_any la m lc
  rw[decide_eq_false hm] at hsm
  obtain⟨k,l,d,b,cc,o⟩:=p
  obtain⟨at_,level,held,L⟩:=s
  unfold St.v Pol.v at *
  dsimp only at *
  have HKN:=Go.Lib.hid hkn
  have HSM:=Go.Lib.hid hsm
  clear hkn hsm
  go_enter Tryz.func3,Tryz.ntmps3
  go_wp2_with go_step3
  refine(HSM.out _).mono ?_
  rintro e w1 ⟨rfl,rfl⟩
  go_wp2_with go_step3
  refine(HKN.out _).mono ?_
  rintro e w1 ⟨rfl,hb⟩
  have hx:Below w.heap.size w w1:=bl_then (bl_alloc (bl_alloc (bl_refl _) _) _) hb
  have hsz1:w.heap.size+2≤w1.heap.size:=szl hb
  obtain⟨p0,p1,p2,p3,p4,p5⟩:=b6 (w.heap.size) k l d b cc o hb
  obtain⟨s0,s1,s2,s3⟩:=b4 (w.heap.size+1) at_ level held a n c hb
  have hB:Below w.heap.size w w1:=hx
  have lb_p:=lbc p0
  have lb_s:=lbc s0
  clear hb hx
  go_wp2_with go_step3
  go_ret
  exact⟨rfl,hB⟩
theorem runs_long2 (p:Pol) (s:St) (a:Option Addr) (n c:Nat) (la:Option Addr) (m lc:Nat) (acts:List Ac) (now:Int) (w:World) (hm:(m:Int)≤60) (hn:(150:Int)<n) :
    Calls Tryz.prog 3 #[p.v,s.v a n c,.slice la m lc,.int .i64 now] w fun e w'=>e=.returned (.bool true)∧Below w.heap.size w w':=by
  have hkn:=known_yes
  have hsm:=small_any la m lc
  rw[decide_eq_true hm] at hsm
  obtain⟨k,l,d,b,cc,o⟩:=p
  obtain⟨at_,level,held,L⟩:=s
  unfold St.v Pol.v at *
  dsimp only at *
  have HKN:=Go.Lib.hid hkn
  have HSM:=Go.Lib.hid hsm
  clear hkn hsm
  go_enter Tryz.func3,Tryz.ntmps3
  go_wp2_with go_step3
  refine(HSM.out _).mono ?_
  rintro e w1 ⟨rfl,rfl⟩
  go_wp2_with go_step3
  refine(HKN.out _).mono ?_
  rintro e w1 ⟨rfl,hb⟩
  have hx:Below w.heap.size w w1:=bl_then (bl_alloc (bl_alloc (bl_refl _) _) _) hb
  have hsz1:w.heap.size+2≤w1.heap.size:=szl hb
  obtain⟨p0,p1,p2,p3,p4,p5⟩:=b6 (w.heap.size) k l d b cc o hb
  obtain⟨s0,s1,s2,s3⟩:=b4 (w.heap.size+1) at_ level held a n c hb
  have hB:Below w.heap.size w w1:=hx
  have lb_p:=lbc p0
  have lb_s:=lbc s0
  clear hb hx
  go_wp2_with go_step3
  go_ret
  exact⟨rfl,hB⟩
theorem runs_yes (p:Pol) (s:St) (a:Option Addr) (n c:Nat) (la:Option Addr) (m lc:Nat) (acts:List Ac) (now:Int) (w:World) (hm:(m:Int)≤60) (hn:¬ (150:Int)<n) (hl:LogAt w a n c s.log) (hA:ActsIn w la m lc acts) :
    Calls Tryz.prog 3 #[p.v,s.v a n c,.slice la m lc,.int .i64 now] w fun e w'=>e=.returned (.bool true)∧Below w.heap.size w w':=by
  have hkn:=known_yes
  have hsm:=small_any la m lc
  rw[decide_eq_true hm] at hsm
  have hr1:=fun w hw ha=>run_any p s acts a n c la m lc w hw (by omega) ha (by omega)
  have hr2:=fun w hw ha=>rrun_any p s acts a n c la m lc w hw ha (by omega)
  unfold PostRun at hr1
  unfold PostRunR at hr2
  have hss:=fun x1 x2 q d1 d2 w h1 h2=>same_yes (runP p s acts).1 x1 x2 q d1 d2 w h1 h2
  have hmo:=lmost_any p
  have hmr:=r8most p
  have hme:=most_cap p
  simp only[hme] at hmr
  clear hme
  have hfr:=fun w hw=>lfresh_any p s a n c now w hw
  have hun:=fun w hw=>r8until_any p s a n c now w hw
  have hln:=runP_len p acts s
  rw[hA.1] at hln
  generalize runP p s acts=R at *
  generalize mostP p=M at *
  generalize untilP p s now=U at *
  obtain⟨⟨xat,xlv,xhd,xL⟩,bs⟩:=R
  obtain⟨k,l,d,b,cc,o⟩:=p
  obtain⟨at_,level,held,L⟩:=s
  unfold St.v Pol.v at *
  dsimp only at *
  have HKN:=Go.Lib.hid hkn
  have HSM:=Go.Lib.hid hsm
  have HR1:=Go.Lib.hid hr1
  have HR2:=Go.Lib.hid hr2
  have HSS:=Go.Lib.hid hss
  have HMO:=Go.Lib.hid hmo
  have HMR:=Go.Lib.hid hmr
  have HFR:=Go.Lib.hid hfr
  have HUN:=Go.Lib.hid hun
  have HL:=Go.Lib.hid hl
  have HA:=Go.Lib.hid hA
  clear hkn hsm hr1 hr2 hss hmo hmr hfr hun hl hA
  go_enter Tryz.func3,Tryz.ntmps3
  go_wp2_with go_step3
  refine(HSM.out _).mono ?_
  rintro e w1 ⟨rfl,rfl⟩
  go_wp2_with go_step3
  refine(HR1.out _ (log_bl HL.out (bl_alloc (bl_alloc (bl_refl _) _) _)) (actsin_bl HA.out (bl_alloc (bl_alloc (bl_refl _) _) _))).mono ?_
  rintro e w1 ⟨a1,n1,c1,m1,v1,rfl,l1,-,ob,hb⟩
  have hx:Below w.heap.size w w1:=bl_then (bl_alloc (bl_alloc (bl_refl _) _) _) hb
  have hsz1:w.heap.size+2≤w1.heap.size:=szl hb
  obtain⟨p0,p1,p2,p3,p4,p5⟩:=b6 (w.heap.size) k l d b cc o hb
  obtain⟨s0,s1,s2,s3⟩:=b4 (w.heap.size+1) at_ level held a n c hb
  have hB:Below w.heap.size w w1:=hx
  have lb_p:=lbc p0
  have lb_s:=lbc s0
  clear hb hx
  obtain⟨ba1,bc1,rfl,hb1⟩:=own_bools ob
  clear ob
  go_wp2_with go_step3
  refine(HR2.out _ (log_bl HL.out (bl_alloc (hB) _)) (actsin_bl HA.out (bl_alloc (hB) _))).mono ?_
  rintro e w2 ⟨a2,n2,c2,m2,v2,rfl,l2,ob,hb⟩
  have hx:Below w1.heap.size w1 w2:=bl_then (bl_alloc (bl_refl _) _) hb
  have hsz2:w1.heap.size+1≤w2.heap.size:=szl hb
  replace p0:=bl_cell hx p0
  replace p1:=bl_cell hx p1
  replace p2:=bl_cell hx p2
  replace p3:=bl_cell hx p3
  replace p4:=bl_cell hx p4
  replace p5:=bl_cell hx p5
  replace s0:=bl_cell hx s0
  replace s1:=bl_cell hx s1
  replace s2:=bl_cell hx s2
  replace s3:=bl_cell hx s3
  replace l1:=log_bl l1 hx
  replace hb1:=bools_bl hb1 hx
  obtain⟨x0,x1,x2,x3⟩:=b4 (w1.heap.size) xat xlv xhd a1 n1 c1 hb
  replace hB:Below w.heap.size w w2:=bl_then hB hx
  replace lb_p:=lbc p0
  replace lb_s:=lbc s0
  have lb_x:=lbc x0
  clear hb hx
  obtain⟨ba2,bc2,rfl,hb2⟩:=own_bools ob
  clear ob
  have hnn:n2=n1:=l2.1.symm.trans l1.1
  subst hnn
  have hmm:m2=m1:=hb2.1.symm.trans hb1.1
  subst hmm
  have hm60:m2≤60:=by have h1:bs.length=m2:=hb2.1;omega
  go_wp2_with go_step3
  skip
  refine wp_abs (S0:=fun X=>(fun w'=>P6 w' (w.heap.size) k l d b cc o (S4 w' (w.heap.size+1) at_ level held a n c (LogAt w' a1 n2 c1 xL∧BoolsAt w' ba1 m2 bs∧S4 w' (w1.heap.size) xat xlv xhd a1 n2 c1 (LogAt w' a2 n2 c2 xL∧BoolsAt w' ba2 m2 bs∧S4 w' (w2.heap.size) xat xlv xhd a2 n2 c2 (Below w.heap.size w w'))))) X∧w2.heap.size+1≤X.heap.size) ⟨⟨bl_cell (bl_alloc (bl_refl _) _) p0,bl_cell (bl_alloc (bl_refl _) _) p1,bl_cell (bl_alloc (bl_refl _) _) p2,bl_cell (bl_alloc (bl_refl _) _) p3,bl_cell (bl_alloc (bl_refl _) _) p4,bl_cell (bl_alloc (bl_refl _) _) p5,bl_cell (bl_alloc (bl_refl _) _) s0,bl_cell (bl_alloc (bl_refl _) _) s1,bl_cell (bl_alloc (bl_refl _) _) s2,bl_cell (bl_alloc (bl_refl _) _) s3,log_bl l1 (bl_alloc (bl_refl _) _),bools_bl hb1 (bl_alloc (bl_refl _) _),bl_cell (bl_alloc (bl_refl _) _) x0,bl_cell (bl_alloc (bl_refl _) _) x1,bl_cell (bl_alloc (bl_refl _) _) x2,bl_cell (bl_alloc (bl_refl _) _) x3,log_bl l2 (bl_alloc (bl_refl _) _),bools_bl hb2 (bl_alloc (bl_refl _) _),by go_simp,by go_simp,by go_simp,by go_simp,bl_alloc (hB) _⟩,by simp⟩ ?_
  clear p0 p1 p2 p3 p4 p5 s0 s1 s2 s3 l1 hb1 x0 x1 x2 x3 l2 hb2 hB
  rintro w3 ⟨⟨p0,p1,p2,p3,p4,p5,s0,s1,s2,s3,l1,hb1,x0,x1,x2,x3,l2,hb2,y0,y1,y2,y3,hB⟩,hsz3⟩
  replace lb_p:=lbc p0
  replace lb_s:=lbc s0
  replace lb_x:=lbc x0
  have lb_y:=lbc y0
  refine wp_region_held_drew (S:=fun w'=>P6 w' (w.heap.size) k l d b cc o (S4 w' (w.heap.size+1) at_ level held a n c (LogAt w' a1 n2 c1 xL∧BoolsAt w' ba1 m2 bs∧S4 w' (w1.heap.size) xat xlv xhd a1 n2 c1 (LogAt w' a2 n2 c2 xL∧BoolsAt w' ba2 m2 bs∧S4 w' (w2.heap.size) xat xlv xhd a2 n2 c2 (Below w.heap.size w w'))))) (by kernel_rfl) ?_ (fun hHeld=>?_)
  · exact⟨p0,p1,p2,p3,p4,p5,s0,s1,s2,s3,l1,hb1,x0,x1,x2,x3,l2,hb2,y0,y1,y2,y3,bl_drew hB⟩
  try simp only[Act.put,List.setIfInBounds_toArray,List.set_cons_zero,List.set_cons_succ]
  refine tkx 0 ?_
  refine tkx 1 ?_
  refine tkx 2 ?_
  refine tkx 3 ?_
  refine tkx 4 ?_
  refine tkx 5 ?_
  first|refine tqx 6 ?_|refine tkx 6 ?_
  first|refine tqx 7 ?_|refine tkx 7 ?_
  first|(refine tqx 8 ?_)|(refine callH (i:=8) rfl hHeld (fun W hW K hK=>?_);clear hHeld;(try dsimp only at hW);obtain⟨h_p0,h_p1,h_p2,h_p3,h_p4,h_p5,h_s0,h_s1,h_s2,h_s3,h_l1,h_hb1,h_x0,h_x1,h_x2,h_x3,h_l2,h_hb2,h_y0,h_y1,h_y2,h_y3,h_B⟩:=hW;go_simp;refine(HSS.out _ _ _ _ _ W h_l1 h_l2).mono ?_;rintro e w9 ⟨rfl,hb⟩;go_wp2_with fail;refine hK.out _ _ ?_ (fun hHeld=>?_);(focus((try dsimp only);exact⟨bl_cell hb h_p0,bl_cell hb h_p1,bl_cell hb h_p2,bl_cell hb h_p3,bl_cell hb h_p4,bl_cell hb h_p5,bl_cell hb h_s0,bl_cell hb h_s1,bl_cell hb h_s2,bl_cell hb h_s3,log_bl h_l1 hb,bools_bl h_hb1 hb,bl_cell hb h_x0,bl_cell hb h_x1,bl_cell hb h_x2,bl_cell hb h_x3,log_bl h_l2 hb,bools_bl h_hb2 hb,bl_cell hb h_y0,bl_cell hb h_y1,bl_cell hb h_y2,bl_cell hb h_y3,bl_then h_B hb⟩));clear hK K;clear h_p0 h_p1 h_p2 h_p3 h_p4 h_p5 h_s0 h_s1 h_s2 h_s3 h_l1 h_hb1 h_x0 h_x1 h_x2 h_x3 h_l2 h_hb2 h_y0 h_y1 h_y2 h_y3 h_B;try simp only[Act.put,List.setIfInBounds_toArray,List.set_cons_zero,List.set_cons_succ])
  first|refine tqx 9 ?_|refine tkx 9 ?_
  refine tkx 10 ?_
  refine tkx 11 ?_
  first|refine tqx 12 ?_|refine tkx 12 ?_
  first|refine tqx 14 ?_|refine tkx 14 ?_
  first|(refine tqx 13 ?_)|(refine callH (i:=13) rfl hHeld (fun W hW K hK=>?_);clear hHeld;(try dsimp only at hW);obtain⟨h_p0,h_p1,h_p2,h_p3,h_p4,h_p5,h_s0,h_s1,h_s2,h_s3,h_l1,h_hb1,h_x0,h_x1,h_x2,h_x3,h_l2,h_hb2,h_y0,h_y1,h_y2,h_y3,h_B⟩:=hW;go_simp;refine(HMO.out W).mono ?_;rintro e w9 ⟨rfl,hb⟩;go_wp2_with fail;refine hK.out _ _ ?_ (fun hHeld=>?_);(focus((try dsimp only);exact⟨bl_cell hb h_p0,bl_cell hb h_p1,bl_cell hb h_p2,bl_cell hb h_p3,bl_cell hb h_p4,bl_cell hb h_p5,bl_cell hb h_s0,bl_cell hb h_s1,bl_cell hb h_s2,bl_cell hb h_s3,log_bl h_l1 hb,bools_bl h_hb1 hb,bl_cell hb h_x0,bl_cell hb h_x1,bl_cell hb h_x2,bl_cell hb h_x3,log_bl h_l2 hb,bools_bl h_hb2 hb,bl_cell hb h_y0,bl_cell hb h_y1,bl_cell hb h_y2,bl_cell hb h_y3,bl_then h_B hb⟩));clear hK K;clear h_p0 h_p1 h_p2 h_p3 h_p4 h_p5 h_s0 h_s1 h_s2 h_s3 h_l1 h_hb1 h_x0 h_x1 h_x2 h_x3 h_l2 h_hb2 h_y0 h_y1 h_y2 h_y3 h_B;try simp only[Act.put,List.setIfInBounds_toArray,List.set_cons_zero,List.set_cons_succ])
  first|(refine tqx 15 ?_)|(refine callH (i:=15) rfl hHeld (fun W hW K hK=>?_);clear hHeld;(try dsimp only at hW);obtain⟨h_p0,h_p1,h_p2,h_p3,h_p4,h_p5,h_s0,h_s1,h_s2,h_s3,h_l1,h_hb1,h_x0,h_x1,h_x2,h_x3,h_l2,h_hb2,h_y0,h_y1,h_y2,h_y3,h_B⟩:=hW;go_simp;refine(HMR.out W).mono ?_;rintro e w9 ⟨rfl,hb⟩;go_wp2_with fail;refine hK.out _ _ ?_ (fun hHeld=>?_);(focus((try dsimp only);exact⟨bl_cell hb h_p0,bl_cell hb h_p1,bl_cell hb h_p2,bl_cell hb h_p3,bl_cell hb h_p4,bl_cell hb h_p5,bl_cell hb h_s0,bl_cell hb h_s1,bl_cell hb h_s2,bl_cell hb h_s3,log_bl h_l1 hb,bools_bl h_hb1 hb,bl_cell hb h_x0,bl_cell hb h_x1,bl_cell hb h_x2,bl_cell hb h_x3,log_bl h_l2 hb,bools_bl h_hb2 hb,bl_cell hb h_y0,bl_cell hb h_y1,bl_cell hb h_y2,bl_cell hb h_y3,bl_then h_B hb⟩));clear hK K;clear h_p0 h_p1 h_p2 h_p3 h_p4 h_p5 h_s0 h_s1 h_s2 h_s3 h_l1 h_hb1 h_x0 h_x1 h_x2 h_x3 h_l2 h_hb2 h_y0 h_y1 h_y2 h_y3 h_B;try simp only[Act.put,List.setIfInBounds_toArray,List.set_cons_zero,List.set_cons_succ])
  first|refine tqx 16 ?_|refine tkx 16 ?_
  refine tkx 17 ?_
  refine tkx 18 ?_
  first|refine tqx 19 ?_|refine tkx 19 ?_
  first|refine tqx 20 ?_|refine tkx 20 ?_
  first|refine tqx 21 ?_|refine tkx 21 ?_
  first|refine tqx 23 ?_|refine tkx 23 ?_
  first|refine tqx 24 ?_|refine tkx 24 ?_
  first|refine tqx 25 ?_|refine tkx 25 ?_
  first|(refine tqx 22 ?_)|(refine callH (i:=22) rfl hHeld (fun W hW K hK=>?_);clear hHeld;(try dsimp only at hW);obtain⟨h_p0,h_p1,h_p2,h_p3,h_p4,h_p5,h_s0,h_s1,h_s2,h_s3,h_l1,h_hb1,h_x0,h_x1,h_x2,h_x3,h_l2,h_hb2,h_y0,h_y1,h_y2,h_y3,h_B⟩:=hW;go_simp;refine(HFR.out W (log_bl HL.out h_B)).mono ?_;rintro e w9 ⟨rfl,hb⟩;go_wp2_with fail;refine hK.out _ _ ?_ (fun hHeld=>?_);(focus((try dsimp only);exact⟨bl_cell hb h_p0,bl_cell hb h_p1,bl_cell hb h_p2,bl_cell hb h_p3,bl_cell hb h_p4,bl_cell hb h_p5,bl_cell hb h_s0,bl_cell hb h_s1,bl_cell hb h_s2,bl_cell hb h_s3,log_bl h_l1 hb,bools_bl h_hb1 hb,bl_cell hb h_x0,bl_cell hb h_x1,bl_cell hb h_x2,bl_cell hb h_x3,log_bl h_l2 hb,bools_bl h_hb2 hb,bl_cell hb h_y0,bl_cell hb h_y1,bl_cell hb h_y2,bl_cell hb h_y3,bl_then h_B hb⟩));clear hK K;clear h_p0 h_p1 h_p2 h_p3 h_p4 h_p5 h_s0 h_s1 h_s2 h_s3 h_l1 h_hb1 h_x0 h_x1 h_x2 h_x3 h_l2 h_hb2 h_y0 h_y1 h_y2 h_y3 h_B;try simp only[Act.put,List.setIfInBounds_toArray,List.set_cons_zero,List.set_cons_succ])
  first|(refine tqx 26 ?_)|(refine callH (i:=26) rfl hHeld (fun W hW K hK=>?_);clear hHeld;(try dsimp only at hW);obtain⟨h_p0,h_p1,h_p2,h_p3,h_p4,h_p5,h_s0,h_s1,h_s2,h_s3,h_l1,h_hb1,h_x0,h_x1,h_x2,h_x3,h_l2,h_hb2,h_y0,h_y1,h_y2,h_y3,h_B⟩:=hW;go_simp;refine(HUN.out W (log_bl HL.out h_B)).mono ?_;rintro e w9 ⟨rfl,hb⟩;go_wp2_with fail;refine hK.out _ _ ?_ (fun hHeld=>?_);(focus((try dsimp only);exact⟨bl_cell hb h_p0,bl_cell hb h_p1,bl_cell hb h_p2,bl_cell hb h_p3,bl_cell hb h_p4,bl_cell hb h_p5,bl_cell hb h_s0,bl_cell hb h_s1,bl_cell hb h_s2,bl_cell hb h_s3,log_bl h_l1 hb,bools_bl h_hb1 hb,bl_cell hb h_x0,bl_cell hb h_x1,bl_cell hb h_x2,bl_cell hb h_x3,log_bl h_l2 hb,bools_bl h_hb2 hb,bl_cell hb h_y0,bl_cell hb h_y1,bl_cell hb h_y2,bl_cell hb h_y3,bl_then h_B hb⟩));clear hK K;clear h_p0 h_p1 h_p2 h_p3 h_p4 h_p5 h_s0 h_s1 h_s2 h_s3 h_l1 h_hb1 h_x0 h_x1 h_x2 h_x3 h_l2 h_hb2 h_y0 h_y1 h_y2 h_y3 h_B;try simp only[Act.put,List.setIfInBounds_toArray,List.set_cons_zero,List.set_cons_succ])
  first|refine tqx 27 ?_|refine tkx 27 ?_
  first|refine tqx 28 ?_|refine tkx 28 ?_
  refine tkx 29 ?_
  refine wpAnyH_done (by kernel_rfl) ?_ _
  refine then_abs (F:=fun w'=>P6 w' (w.heap.size) k l d b cc o (S4 w' (w.heap.size+1) at_ level held a n c (LogAt w' a1 n2 c1 xL∧BoolsAt w' ba1 m2 bs∧S4 w' (w1.heap.size) xat xlv xhd a1 n2 c1 (LogAt w' a2 n2 c2 xL∧BoolsAt w' ba2 m2 bs∧S4 w' (w2.heap.size) xat xlv xhd a2 n2 c2 (Below w.heap.size w w'))))) hHeld ?_
  clear hHeld hB p0 p1 p2 p3 p4 p5 s0 s1 s2 s3 l1 hb1 x0 x1 x2 x3 l2 hb2 y0 y1 y2 y3
  rintro w4 ⟨p0,p1,p2,p3,p4,p5,s0,s1,s2,s3,l1,hb1,x0,x1,x2,x3,l2,hb2,y0,y1,y2,y3,hB⟩
  replace lb_p:=lbc p0
  replace lb_s:=lbc s0
  replace lb_x:=lbc x0
  replace lb_y:=lbc y0
  go_wp2_with go_step3
  go_loopw [13] (fun s13 wr=>∃ j:Nat,s13=.int .i64 j∧j≤m2∧Hid (Below w4.heap.size w4 wr))
    (fun s13 _=>m2 - (intOf s13).toNat)
  case atStart=>exact⟨0,rfl,Nat.zero_le _,Below.refl _ _⟩
  case round =>
    obtain⟨j,rfl,hj,H⟩:=hrel
    have hb:=H.out
    have dB:Below w.heap.size w wr:=hB.trans (hb.mono hB.size)
    by_cases hjn:j<m2
    · obtain⟨b6,rfl,x6⟩:=hb1.2 j hjn
      obtain⟨b7,rfl,x7⟩:=hb2.2 j hjn
      have y6:=bl_cell hb x6
      have y7:=bl_cell hb x7
      generalize bs.getD j false=B at y6 y7
      have k0:(0:Int)≤(j:Int):=by omega
      have k1:(j:Int)<(m2:Int):=by omega
      have hj1:j+1≤m2:=hjn
      have hms:m2 - (j+1)<m2 - j:=by omega
      have wj:IntKind.i64.wrap ((j:Int)+1)=(j:Int)+1:=IntWalk.i64_in _ (by omega)
      clear x6 x7
      go_wp2_with go_step3
      refine wp_region_held_drew (S:=fun w'=>w'.cell? ⟨b6,j,none⟩=some (.bool B)∧w'.cell? ⟨b7,j,none⟩=some (.bool B)∧Below w.heap.size w w') (by kernel_rfl) ?_ (fun hHeld=>?_)
      · exact⟨y6,y7,bl_drew dB⟩
      try simp only[Act.put,List.setIfInBounds_toArray,List.set_cons_zero,List.set_cons_succ]
      refine tkx 0 ?_
      refine tkx 1 ?_
      refine tkx 2 ?_
      refine tkx 3 ?_
      refine tkx 4 ?_
      refine tkx 5 ?_
      refine tkx 6 ?_
      refine tkx 7 ?_
      refine tkx 8 ?_
      refine wpAnyH_done (by kernel_rfl) ?_ _
      clear hHeld
      have hbd:Below w4.heap.size w4 wr.drew:=hb.drew
      go_wp2_with go_step3
      go_roundw
      case rel=>exact⟨j+1,by go_num,hj1,hbd⟩
      case measure=>(simp[intOf];first|exact hms|omega)
    · have hje:m2=j:=by omega
      subst hje
      go_wp2_with go_step3
      refine(HKN.out _).mono ?_
      rintro e w9 ⟨rfl,hb9⟩
      go_wp2_with go_step3
      go_ret
      exact⟨rfl,bl_then dB hb9⟩
theorem runs_row (p:Pol) (s:St) (a:Option Addr) (n c:Nat) (la:Option Addr) (m lc:Nat) (acts:List Ac) (now:Int) (w:World) (hl:LogAt w a n c s.log) (hA:ActsIn w la m lc acts) (h4 : -9223372036854775808≤now) (h5:now≤9223372036854775807) :
    Calls Tryz.prog 3 #[p.v,s.v a n c,.slice la m lc,.int .i64 now] w fun e w'=>e=.returned (.bool true)∧Below w.heap.size w w':=by
  by_cases hm:(m:Int)≤60
  · by_cases hn:(150:Int)<n
    · exact runs_long2 p s a n c la m lc acts now w hm hn
    · exact runs_yes p s a n c la m lc acts now w hm hn hl hA
  · exact runs_long1 p s a n c la m lc acts now w hm
end Go.Proofs.YtmhikkbdhboodaaGreat
