/-
  The library's functions that this program calls are the ones of which the kit has contracts: number by number, at this translation. Written by the kit's own tool.
  What the functions of package num answer: Clamp, told; the product of two numbers that are not below 0; a product by a number, rounded up, where the product is one of 63 bits.
  Small laws for the walk of a region whose order is drawn: the operation is found by 'drop', the closed conditions pay themselves.
  Short words for the facts of a policy's, a state's and an act's box, and for a step in a drawn region.
  What the four limiters reckon: policies, states, and what each act makes of them, in plain Lean.
  What package bucket answers.
  A result that is a state: read out of its box.
  What gcra.in, gcra.Check and gcra.Right answer.
  What gcra.Right answers.
  What bucket.drops and bucket.lasts answer.
  What gcra.paid and gcra.lasts answer.
  What gcra.Advance answers.
  What counter.Check answers.
  What counter.Right answers.
  What counter.Advance answers.
  A log in memory; its sum.
  What slices.Clone answers at entries.
  A log with some cost more, in plain words.
  What window.Check answers.
  What window.logged answers.
  What window.Right answers.
  No condition.
-/
import Derived.Shelf.Bits.Mul64
import Derived.Test.YtmhikkbdhboodaaGreatProg
import Derived.Deep.QuietTactic
import Derived.BigQuiet
import Derived.OwnWalk
import Derived.LaidEqlPtr
import Derived.WalkKit
import Derived.WalkSpells
import Derived.WalkLawsBesides
import Derived.Handy
import Derived.Lib.Hide
import Derived.ProofKit
import Derived.Deep.RegionHeld3
import Derived.Deep.MidRow
import Derived.Deep.DeepCutAuto
import Derived.Lib.SliceRun
import Derived.Laws.AppendOwn
import Derived.Laws.OwnMore
set_option maxHeartbeats 8000000
set_option maxRecDepth 100000
namespace Go.Proofs
open Go.Shelf

def Tryz.mulL_ren:Go.Shelf.Ren:=⟨fun|264=>183|n=>n,fun|53=>155|46=>165|n=>n,fun|n=>n⟩
theorem Tryz.mulL:Go.Proofs.Lays.n264 Tryz.prog Tryz.mulL_ren := {
 mixed:=by kernel_rfl
 f264:=Tryz.func183.trans (congrArg some (by kernel_rfl))
 t46:=Tryz.underlying165
 a46:=Tryz.isAgg165
 z46:=Tryz.sizeOf165
 v46:=Tryz.zeroValue165
 t53:=Tryz.underlying155
 a53:=Tryz.isAgg155
 z53:=Tryz.sizeOf155
 v53:=Tryz.zeroValue155 }
end Go.Proofs

namespace Go.Proofs.YtmhikkbdhboodaaGreat
open Go.RowKit

/-- A time, clipped. -/
def clampT (t:Int):Int:=if t<0 then 0 else if 9007199254740992<t then 9007199254740992 else t
theorem clampT_range (t:Int):0≤clampT t∧clampT t≤9007199254740992:=by unfold clampT;split <;> (try split) <;> omega
theorem clampT_id {t:Int} (h0:0≤t) (h1:t≤9007199254740992):clampT t=t:=by unfold clampT;split <;> (try split) <;> omega

theorem clamp_any (t:Int) (w:World):Calls Tryz.prog 151 #[.int .i64 t] w fun e w'=>e=.returned (.int .i64 (clampT t))∧w=w':=by
 have e:clampT t=max 0 (min t 9007199254740992):=by unfold clampT;split <;> (try split) <;> omega
 rw[e]
 clear e
 go_enter Tryz.func151,Tryz.ntmps151
 go_wp2
 all_goals
  go_ret
  first|exact⟨rfl,rfl⟩|exact⟨congrArg (fun x=>Ending.returned (.int .i64 x)) (by omega),rfl⟩

theorem told_any (n:Int) (ok:Bool) (w:World):Calls Tryz.prog 187 #[.int .i64 n,.bool ok] w fun e w'=>e=.returned (.tuple #[.int .i64 (if ok then n else 0),.bool ok])∧w=w':=by
 cases ok
 all_goals
  go_enter Tryz.func187,Tryz.ntmps187
  go_wp2
  go_ret2
  exact⟨rfl,rfl⟩


theorem bl_refl (w:World):Below w.heap.size w w:=Below.refl _ _
theorem bl_alloc {w W:World} (h:Below w.heap.size w W) (o:Obj):Below w.heap.size w (W.alloc o):=h.alloc h.size o
theorem bl_drewN {w W:World} (h:Below w.heap.size w W) (n:Nat):Below w.heap.size w (W.drewN n):=⟨h.os,h.tape,h.output,h.size,h.block⟩
theorem bl_drew {w W:World} (h:Below w.heap.size w W):Below w.heap.size w W.drew:=⟨h.os,h.tape,h.output,h.size,h.block⟩
theorem bl_then {w w1 w2:World} (h:Below w.heap.size w w1) (k:Below w1.heap.size w1 w2):Below w.heap.size w w2:=h.trans (k.mono h.size)

theorem bl_cell {w W:World} (h:Below w.heap.size w W) {b o:Nat} {i:Option Nat} {v:Value} (hc:w.cell? ⟨b,o,i⟩=some v):W.cell? ⟨b,o,i⟩=some v:=by
 have hb:b<w.heap.size:=World.block_lt_of_cell? w _ hc
 rw[← hc]
 simp only[World.cell?,h.block b hb]

theorem size_nat (x:Nat) (hx:x≤9223372036854775807) (w:World):Calls Tryz.prog 184 #[.int .i64 (x:Int)] w fun e w'=>e=.returned (.int .u64 (x:Int))∧w=w':=by
 have h0:¬ (x:Int)<0:=by omega
 have h1:(x:Int)<18446744073709551616:=by omega
 have h2:IntKind.u64.wrap (x:Int)=(x:Int):=by rw[IntKind.wrap_u64];omega
 go_enter Tryz.func184,Tryz.ntmps184
 go_wp2
 go_ret
 exact⟨rfl,rfl⟩

theorem mul64_nat (x y:Nat) (hx:x≤9223372036854775807) (hy:y≤9223372036854775807) (w:World) :
  Calls Tryz.prog 183 #[.int .u64 (x:Int),.int .u64 (y:Int)] w fun e w'=>e=.returned (.tuple #[.int .u64 ((x*y / 18446744073709551616:Nat):Int),.int .u64 ((x*y % 18446744073709551616:Nat):Int)])∧w=w' :=
 (Any.bits_Mul64 Tryz.mulL x y (by omega) (by omega) w).mono fun _ _ h=>⟨h.1,h.2.symm⟩

/-- Is a product one of 63 bits? -/
def mulOk (a b:Int):Bool:=decide (a*b≤9223372036854775807)
def mulN (a b:Int):Int:=if mulOk a b then a*b else 0

theorem mul_parts (x y:Nat) (H L:Int) (hx:x≤9223372036854775807) (hy:y≤9223372036854775807) (w:World) (r:Int) (ok:Bool)
  (hH:((x*y / 18446744073709551616:Nat):Int)=H) (hL:((x*y % 18446744073709551616:Nat):Int)=L) (hL1:0≤L) (hL2:L<18446744073709551616)
  (hr:H=0∧L≤9223372036854775807∧r=L∧ok=true∨r=0∧ok=false∧(0<H∨H=0∧9223372036854775808≤L)) :
  Calls Tryz.prog 173 #[.int .i64 (x:Int),.int .i64 (y:Int)] w fun e w'=>e=.returned (.tuple #[.int .i64 r,.bool ok])∧w=w':=by
 have h0:¬ (x:Int)<0:=by omega
 have h1:¬ (y:Int)<0:=by omega
 have hm:=mul64_nat x y hx hy
 rw[hH,hL] at hm
 have HM:=Go.Lib.hid hm
 have HSX:=Go.Lib.hid (size_nat x hx)
 have HSY:=Go.Lib.hid (size_nat y hy)
 clear hm hx hy hH hL
 rcases hr with⟨rfl,hl,rfl,rfl⟩|⟨rfl,rfl,hh|⟨rfl,hl⟩⟩
 ·have e1:¬ (9223372036854775808:Int)<r:=by omega
  have e2:¬ r=9223372036854775808:=by omega
  have e3:IntKind.i64.wrap r=r:=IntWalk.i64_in _ (by omega)
  go_enter Tryz.func173,Tryz.ntmps173
  go_wp2_with fail
  refine(HSX.out _).mono ?_
  rintro e w' ⟨rfl,rfl⟩
  go_wp2_with fail
  refine(HSY.out _).mono ?_
  rintro e w' ⟨rfl,rfl⟩
  go_wp2_with fail
  refine(HM.out _).mono ?_
  rintro e w' ⟨rfl,rfl⟩
  go_wp2
  go_ret2
  exact⟨rfl,rfl⟩
 ·have e1:(0:Int)<H:=by omega
  go_enter Tryz.func173,Tryz.ntmps173
  go_wp2_with fail
  refine(HSX.out _).mono ?_
  rintro e w' ⟨rfl,rfl⟩
  go_wp2_with fail
  refine(HSY.out _).mono ?_
  rintro e w' ⟨rfl,rfl⟩
  go_wp2_with fail
  refine(HM.out _).mono ?_
  rintro e w' ⟨rfl,rfl⟩
  go_wp2
  go_ret2
  exact⟨rfl,rfl⟩
 ·by_cases e1:(9223372036854775808:Int)<L
  ·go_enter Tryz.func173,Tryz.ntmps173
   go_wp2_with fail
   refine(HSX.out _).mono ?_
   rintro e w' ⟨rfl,rfl⟩
   go_wp2_with fail
   refine(HSY.out _).mono ?_
   rintro e w' ⟨rfl,rfl⟩
   go_wp2_with fail
   refine(HM.out _).mono ?_
   rintro e w' ⟨rfl,rfl⟩
   go_wp2
   go_ret2
   exact⟨rfl,rfl⟩
  ·have e2:L=9223372036854775808:=by omega
   go_enter Tryz.func173,Tryz.ntmps173
   go_wp2_with fail
   refine(HSX.out _).mono ?_
   rintro e w' ⟨rfl,rfl⟩
   go_wp2_with fail
   refine(HSY.out _).mono ?_
   rintro e w' ⟨rfl,rfl⟩
   go_wp2_with fail
   refine(HM.out _).mono ?_
   rintro e w' ⟨rfl,rfl⟩
   go_wp2
   go_ret2
   exact⟨rfl,rfl⟩

theorem mul_any (a b:Int) (ha:0≤a) (hA:a≤9223372036854775807) (hb:0≤b) (hB:b≤9223372036854775807) (w:World) :
  Calls Tryz.prog 173 #[.int .i64 a,.int .i64 b] w fun e w'=>e=.returned (.tuple #[.int .i64 (mulN a b),.bool (mulOk a b)])∧w=w':=by
 obtain⟨x,rfl⟩:=Int.eq_ofNat_of_zero_le ha
 obtain⟨y,rfl⟩:=Int.eq_ofNat_of_zero_le hb
 have hp:(x:Int)*(y:Int)=((x*y:Nat):Int):=(Int.natCast_mul x y).symm
 refine mul_parts x y _ _ (by omega) (by omega) w _ _ rfl rfl (by omega) (by omega) ?_
 unfold mulN mulOk
 rw[hp]
 generalize x*y=P
 by_cases h:(P:Int)≤9223372036854775807
 ·left
  rw[decide_eq_true h]
  exact⟨by omega,by omega,by simp;omega,rfl⟩
 ·right
  rw[decide_eq_false h]
  exact⟨by simp,rfl,by omega⟩

theorem div64_low (n c:Nat) (hn:(n:Int)≤9223372036854775807) (hc:0<(c:Int)) (hC:(c:Int)≤9223372036854775807) (w:World) :
  Calls Tryz.prog 188 #[.int .u64 0,.int .u64 (n:Int),.int .u64 (c:Int)] w fun e w'=>e=.returned (.tuple #[.int .u64 (n / c:Nat),.int .u64 (n % c:Nat)])∧∃ k,w'=w.drewN k:=by
 have h0:¬ (c:Int)=0:=by omega
 have h1:¬ (c:Int)≤0:=by omega
 have h2:0≤(n:Int):=by omega
 rw[Int.natCast_ediv,Int.natCast_emod]
 have a0:0≤(n:Int) / (c:Int):=Int.ediv_nonneg h2 (by omega)
 have a1:(n:Int) / (c:Int)≤n:=Int.ediv_le_self _ h2
 have a2:0≤(n:Int) % (c:Int):=Int.emod_nonneg _ h0
 have a3:(n:Int) % (c:Int)<c:=Int.emod_lt_of_pos _ hc
 go_enter Tryz.func188,Tryz.ntmps188
 go_wp2_with fail
 go_quiet (fail)
 go_wp2
 go_ret2
 exact⟨rfl,_,rfl⟩

theorem divided_nat (x y c n:Nat) (hx:x≤9223372036854775807) (hy:y≤9223372036854775807) (hn:x*y=n) (hN:(n:Int)≤9223372036854775807) (hc:0<(c:Int)) (hC:(c:Int)≤9223372036854775807) (w:World) :
  Calls Tryz.prog 185 #[.int .i64 (x:Int),.int .i64 (y:Int),.int .i64 (c:Int)] w fun e w'=>e=.returned (.tuple #[.int .u64 (n / c:Nat),.int .u64 (n % c:Nat),.bool true])∧∃ k,w'=w.drewN k:=by
 have hm:=mul64_nat x y hx hy
 rw[hn,show n / 18446744073709551616=0 by omega,show n % 18446744073709551616=n by omega,show((0:Nat):Int)=0 from rfl] at hm
 have HM:=Go.Lib.hid hm
 have HD:=Go.Lib.hid (div64_low n c hN hc hC)
 have h0:¬ (x:Int)<0:=by omega
 have h1:¬ (y:Int)<0:=by omega
 have h2:¬ (c:Int)≤0:=by omega
 have h3:IntKind.u64.wrap (x:Int)=(x:Int):=by rw[IntKind.wrap_u64];omega
 have h4:IntKind.u64.wrap (y:Int)=(y:Int):=by rw[IntKind.wrap_u64];omega
 have h5:IntKind.u64.wrap (c:Int)=(c:Int):=by rw[IntKind.wrap_u64];omega
 generalize ((n / c:Nat):Int)=Q at *
 generalize ((n % c:Nat):Int)=R at *
 clear hm hx hy hn
 generalize (x:Int)=X at *
 generalize (y:Int)=Y at *
 generalize (c:Int)=C at *
 generalize (n:Int)=M at *
 clear hN
 by_cases hxy:Y<X
 all_goals
  go_enter Tryz.func185,Tryz.ntmps185
  go_wp2_with fail
  refine(HM.out _).mono ?_
  rintro e w' ⟨rfl,rfl⟩
  go_wp2_with fail
  refine(HD.out _).mono ?_
  rintro e w' ⟨rfl,k,rfl⟩
  go_wp2
  go_ret3
  exact⟨rfl,_,rfl⟩

theorem up_any (p q:Nat) (n r:Int) (hn0:0≤n) (hn:n≤9223372036854775807) (w:World) (c1:w.cell? ⟨q,0,none⟩=some (.int .u64 r)) (c2:w.cell? ⟨p,0,none⟩=some (.int .u64 n)) :
  Calls Tryz.prog 186 #[.pointer (some ⟨q,0,none⟩),.pointer (some ⟨p,0,none⟩)] w fun e w'=>e=.returned (.int .u64 (if 0<r then n+1 else n))∧w=w':=by
 have hw:IntKind.u64.wrap (n+1)=n+1:=by rw[IntKind.wrap_u64];omega
 by_cases hr:0<r
 ·rw[if_pos hr]
  go_enter Tryz.func186,Tryz.ntmps186
  go_wp2
  go_ret
  exact⟨rfl,rfl⟩
 ·rw[if_neg hr]
  go_enter Tryz.func186,Tryz.ntmps186
  go_wp2
  go_ret
  exact⟨rfl,rfl⟩

theorem whole_nat (x y c n:Nat) (hx:x≤9223372036854775807) (hy:y≤9223372036854775807) (hn:x*y=n) (hN:(n:Int)≤4611686018427387904) (hc:0<(c:Int)) (hC:(c:Int)≤9223372036854775807) (w:World) :
  Calls Tryz.prog 174 #[.int .i64 (x:Int),.int .i64 (y:Int),.int .i64 (c:Int)] w fun e w'=>e=.returned (.tuple #[.int .i64 (((n+c - 1) / c:Nat):Int),.bool true])∧Below w.heap.size w w':=by
 have hd:=divided_nat x y c n hx hy hn (by omega) hc hC
 have HD:=Go.Lib.hid hd
 have e0:(if (0:Int)<((n % c:Nat):Int) then((n / c:Nat):Int)+1 else((n / c:Nat):Int))=(((n+c - 1) / c:Nat):Int):=by
  have hc':0<c:=by omega
  have hdm:=Nat.div_add_mod n c
  have hlt:=Nat.mod_lt n hc'
  by_cases h0:n % c=0
  ·rw[h0,if_neg (by simp)]
   congr 1
   have:n+c - 1=(c - 1)+c*(n / c):=by omega
   rw[this,Nat.add_mul_div_left _ _ hc',Nat.div_eq_of_lt (show c - 1<c by omega)];omega
  ·rw[if_pos (by omega)]
   have:n+c - 1=(n % c - 1)+c*(n / c+1):=by rw[Nat.mul_add];omega
   rw[this,Nat.add_mul_div_left _ _ hc',Nat.div_eq_of_lt (show n % c - 1<c by omega)];omega
 have a1:(0:Int)≤((n / c:Nat):Int):=Int.natCast_nonneg _
 have a2:((n / c:Nat):Int)≤4611686018427387904:=by have:=Nat.div_le_self n c;omega
 have a3:(0:Int)≤(((n+c - 1) / c:Nat):Int):=Int.natCast_nonneg _
 have a4:(((n+c - 1) / c:Nat):Int)≤4611686018427387905:=by rw[← e0];split <;> omega
 generalize (((n+c - 1) / c:Nat):Int)=U at *
 generalize ((n / c:Nat):Int)=Q at *
 generalize ((n % c:Nat):Int)=R at *
 clear hd hN hn hx hy hc hC
 generalize (x:Int)=X at *
 generalize (y:Int)=Y at *
 generalize (c:Int)=C at *
 have HU:=Go.Lib.hid e0
 have hw:IntKind.i64.wrap U=U:=IntWalk.i64_in _ (by omega)
 have hs:∀ z:Int,0≤z→z≤4611686018427387905→z / 9223372036854775808=0:=by intro z h0 h1;omega
 have s1:Q / 9223372036854775808=0:=by omega
 have s2:U / 9223372036854775808=0:=by omega
 clear e0
 go_enter Tryz.func174,Tryz.ntmps174
 go_wp2_with fail
 refine(HD.out _).mono ?_
 rintro e w' ⟨rfl,k,rfl⟩
 have hb:Below w.heap.size w (w.drewN k):=bl_drewN (bl_refl w) k
 generalize w.drewN k=w1 at *
 go_wp2_with fail
 refine(up_any _ _ Q R a1 (by omega) _ (by go_simp) (by go_simp)).mono ?_
 rw[HU.out]
 rintro e w' ⟨rfl,rfl⟩
 go_wp2_with fail
 refine(up_any _ _ Q R a1 (by omega) _ (by go_simp) (by go_simp)).mono ?_
 rw[HU.out]
 rintro e w' ⟨rfl,rfl⟩
 go_wp2_with fail
 refine(told_any _ _ _).mono ?_
 rintro e w' ⟨rfl,rfl⟩
 go_wp2
 go_ret2
 exact⟨rfl,bl_alloc (bl_alloc hb _) _⟩
end Go.Proofs.YtmhikkbdhboodaaGreat

namespace Go.Proofs.YtmhikkbdhboodaaGreat
open Go.RowKit
set_option linter.unusedVariables false
set_option linter.unusedSimpArgs false

section
variable {P:Program} {l:List Oper} {Q:Exit→Act→World→Prop} {S:World→Prop}

theorem drop_get {α:Type} {l:List α} {i:Nat} {o:α} {r:List α} (h:l.drop i=o :: r):l[i]?=some o:=by
 have:=congrArg (fun x=>x[0]?) h
 simpa using this

theorem tkv {i:Nat} {oi:Oper} {rest:List Oper} {v:Value} {fuel:Nat} {listed:Array Bool} {a:Act} {w:World}
  (hl:l.drop i=oi :: rest) (hw:Region.wanted oi (yielded l.toArray a.tmps)=true)
  (hy:∀ w,S w→(execOp a.eval oi).run P w=.ok (.value v) w) (hS:S w)
  (h:wpAnyH P .any l.toArray Q S fuel (listed.setIfInBounds i true) (a.put oi.dst v) w)
  (hs:Region.noSelect l.toArray=true:=by kernel_rfl) (hf:Region.free .any l.toArray listed i=true:=by kernel_rfl)
  (hr:(Region.ready .any l.toArray listed).contains i=true:=by kernel_rfl)
  (hQ:∀ c a w,Q (.panic c) (a.put oi.dst v) w→Q (.panic c) a w:=by exact fun _ _ _ h=>h):wpAnyH P .any l.toArray Q S (fuel+1) listed a w :=
 wpAnyH_take (by simpa using drop_get hl) hs hf hr hQ (Or.inl ⟨hw,hy⟩) hS h

theorem tks {i:Nat} {oi:Oper} {rest:List Oper} {fuel:Nat} {listed:Array Bool} {a:Act} {w:World}
  (hl:l.drop i=oi :: rest) (hw:Region.wanted oi (yielded l.toArray a.tmps)=false) (hS:S w)
  (h:wpAnyH P .any l.toArray Q S fuel (listed.setIfInBounds i true) (a.put oi.dst undef) w)
  (hs:Region.noSelect l.toArray=true:=by kernel_rfl) (hf:Region.free .any l.toArray listed i=true:=by kernel_rfl)
  (hr:(Region.ready .any l.toArray listed).contains i=true:=by kernel_rfl)
  (hQ:∀ c a w,Q (.panic c) (a.put oi.dst undef) w→Q (.panic c) a w:=by exact fun _ _ _ h=>h):wpAnyH P .any l.toArray Q S (fuel+1) listed a w :=
 wpAnyH_take (by simpa using drop_get hl) hs hf hr hQ (Or.inr ⟨hw,rfl⟩) hS h

/-- An operation taken first; what it yields, and the slots behind it, are reckoned at once. -/
theorem tk {i:Nat} {oi:Oper} {rest:List Oper} {v:Value} {fuel:Nat} {listed:Array Bool} {a a':Act} {w:World}
  (hl:l.drop i=oi :: rest) (hw:Region.wanted oi (yielded l.toArray a.tmps)=true) (hS:S w)
  (h:wpAnyH P .any l.toArray Q S fuel (listed.setIfInBounds i true) a' w)
  (hy:∀ w,S w→(execOp a.eval oi).run P w=.ok (.value v) w:=by(intro w hSw;(try dsimp only at hSw);go_simp <;> with_reducible rfl))
  (he:a.put oi.dst v=a':=by((try simp only[Act.put,List.setIfInBounds_toArray,List.set_cons_zero,List.set_cons_succ]);with_reducible rfl))
  (hs:Region.noSelect l.toArray=true:=by kernel_rfl) (hf:Region.free .any l.toArray listed i=true:=by kernel_rfl)
  (hr:(Region.ready .any l.toArray listed).contains i=true:=by kernel_rfl)
  (hQ:∀ c a w,Q (.panic c) (a.put oi.dst v) w→Q (.panic c) a w:=by exact fun _ _ _ h=>h):wpAnyH P .any l.toArray Q S (fuel+1) listed a w :=
 wpAnyH_take (by simpa using drop_get hl) hs hf hr hQ (Or.inl ⟨hw,hy⟩) hS (he ▸ h)
/-- An operation whose guard is shut. -/
theorem tq {i:Nat} {oi:Oper} {rest:List Oper} {fuel:Nat} {listed:Array Bool} {a a':Act} {w:World}
  (hl:l.drop i=oi :: rest) (hw:Region.wanted oi (yielded l.toArray a.tmps)=false) (hS:S w)
  (h:wpAnyH P .any l.toArray Q S fuel (listed.setIfInBounds i true) a' w)
  (he:a.put oi.dst undef=a':=by((try simp only[Act.put,List.setIfInBounds_toArray,List.set_cons_zero,List.set_cons_succ]);with_reducible rfl))
  (hs:Region.noSelect l.toArray=true:=by kernel_rfl) (hf:Region.free .any l.toArray listed i=true:=by kernel_rfl)
  (hr:(Region.ready .any l.toArray listed).contains i=true:=by kernel_rfl)
  (hQ:∀ c a w,Q (.panic c) (a.put oi.dst undef) w→Q (.panic c) a w:=by exact fun _ _ _ h=>h):wpAnyH P .any l.toArray Q S (fuel+1) listed a w :=
 wpAnyH_take (by simpa using drop_get hl) hs hf hr hQ (Or.inr ⟨hw,rfl⟩) hS (he ▸ h)

theorem callH {i:Nat} {o:Oper} {rest:List Oper} {fuel:Nat} {listed:Array Bool} {a:Act} {w:World}
  (hl:l.drop i=o :: rest) (hS:S w)
  (h:∀ W,S W→∀ K':Act→World→Prop,Shut (∀ a w,S w→(S w→wpAnyH P .any l.toArray Q S fuel (listed.setIfInBounds i true) a w)→K' a w)→if Region.wanted o (yielded l.toArray a.tmps)=true then Oper.wp P o a W K' Q else K' (a.put o.dst undef) W)
  (hr:Region.ready .any l.toArray listed=[i]:=by kernel_rfl):wpAnyH P .any l.toArray Q S (fuel+1) listed a w :=
 wpAnyH_ready hr (by simp) (AllReadyH.cons (by simpa using drop_get hl) (h w hS) AllReadyH.nil)

theorem callC {i:Nat} {o:Oper} {rest:List Oper} {fuel:Nat} {listed:Array Bool} {a:Act} {w:World}
  (hl:l.drop i=o :: rest)
  (h:∀ K':Act→World→Prop,Shut (∀ a w,S w→(S w→wpAnyH P .any l.toArray Q S fuel (listed.setIfInBounds i true) a w)→K' a w)→if Region.wanted o (yielded l.toArray a.tmps)=true then Oper.wp P o a w K' Q else K' (a.put o.dst undef) w)
  (hr:Region.ready .any l.toArray listed=[i]:=by kernel_rfl):wpAnyH P .any l.toArray Q S (fuel+1) listed a w :=
 wpAnyH_ready hr (by simp) (AllReadyH.cons (by simpa using drop_get hl) h AllReadyH.nil)

theorem callC2 {i j:Nat} {o o':Oper} {rest rest':List Oper} {fuel:Nat} {listed:Array Bool} {a:Act} {w:World}
  (hl:l.drop i=o :: rest) (hl':l.drop j=o' :: rest')
  (h:∀ K':Act→World→Prop,Shut (∀ a w,S w→(S w→wpAnyH P .any l.toArray Q S fuel (listed.setIfInBounds i true) a w)→K' a w)→if Region.wanted o (yielded l.toArray a.tmps)=true then Oper.wp P o a w K' Q else K' (a.put o.dst undef) w)
  (h':∀ K':Act→World→Prop,Shut (∀ a w,S w→(S w→wpAnyH P .any l.toArray Q S fuel (listed.setIfInBounds j true) a w)→K' a w)→if Region.wanted o' (yielded l.toArray a.tmps)=true then Oper.wp P o' a w K' Q else K' (a.put o'.dst undef) w)
  (hr:Region.ready .any l.toArray listed=[i,j]:=by kernel_rfl):wpAnyH P .any l.toArray Q S (fuel+1) listed a w :=
 wpAnyH_ready hr (by simp) (AllReadyH.cons (by simpa using drop_get hl) h (AllReadyH.cons (by simpa using drop_get hl') h' AllReadyH.nil))

theorem wpAnyH_abs {md:Region.Mode} {ops:Array Oper} {fuel:Nat} {listed:Array Bool} {a:Act} {w:World} {F:World→Prop} (hS:S w) (hF:F w)
  (k:∀ W,S W→F W→wpAnyH P md ops Q S fuel listed a W):wpAnyH P md ops Q S fuel listed a w:=k w hS hF

theorem then_abs {K:Act→World→Prop} {e:Exit} {a:Act} {w:World} {F:World→Prop} (h:F w) (k:∀ W,F W→Exit.then K Q e a W):Exit.then K Q e a w:=k w h

/-- The world at hand is forgotten, but for what is said of it. -/
theorem wp_abs {c:Code} {a:Act} {w:World} {S0:World→Prop} (h:S0 w) (k:∀ W,S0 W→c.wp P Q a W):c.wp P Q a w:=k w h
end

/-- A result's box of four cells: it may be written. -/
def ResB (w:World) (b:Nat):Prop:=∀ i,i<4→w.frozen? ⟨b,i,none⟩=false∧(w.cell? ⟨b,i,none⟩).isSome=true
theorem res_all {w:World} {b:Nat} (h:ResB w b) :
  w.frozen? ⟨b,0,none⟩=false∧w.frozen? ⟨b,1,none⟩=false∧w.frozen? ⟨b,2,none⟩=false∧w.frozen? ⟨b,3,none⟩=false ∧
  ∃ u0 u1 u2 u3,w.cell? ⟨b,0,none⟩=some u0∧w.cell? ⟨b,1,none⟩=some u1∧w.cell? ⟨b,2,none⟩=some u2∧w.cell? ⟨b,3,none⟩=some u3:=by
 obtain⟨u0,h0⟩:=Option.isSome_iff_exists.1 (h 0 (by omega)).2
 obtain⟨u1,h1⟩:=Option.isSome_iff_exists.1 (h 1 (by omega)).2
 obtain⟨u2,h2⟩:=Option.isSome_iff_exists.1 (h 2 (by omega)).2
 obtain⟨u3,h3⟩:=Option.isSome_iff_exists.1 (h 3 (by omega)).2
 exact⟨(h 0 (by omega)).1,(h 1 (by omega)).1,(h 2 (by omega)).1,(h 3 (by omega)).1,u0,u1,u2,u3,h0,h1,h2,h3⟩
theorem res_new (w:World) (c0 c1 c2 c3:Value) (t:TypeId) {b:Nat} (hb:b=w.heap.size):ResB (w.alloc (.cells #[c0,c1,c2,c3] t)) b:=by
 subst hb
 intro i hi
 have:i=0∨i=1∨i=2∨i=3:=by omega
 rcases this with rfl|rfl|rfl|rfl <;> exact⟨by simp,by simp⟩
theorem res_bl {w w':World} {b:Nat} (h:ResB w b) (hb:Below w.heap.size w w'):ResB w' b:=fun i hi=>by
 have h1:=h i hi
 obtain⟨u,hu⟩:=Option.isSome_iff_exists.1 h1.2
 have hlt:b<w.heap.size:=World.block_lt_of_cell? w _ hu
 exact⟨by rw[hb.frozen (p:=⟨b,i,none⟩) hlt];exact h1.1,by rw[hb.cell (p:=⟨b,i,none⟩) hlt];exact h1.2⟩
theorem res_lt {w:World} {b:Nat} (h:ResB w b):b<w.heap.size:=by
 obtain⟨u,hu⟩:=Option.isSome_iff_exists.1 (h 0 (by omega)).2
 exact World.block_lt_of_cell? w _ hu
theorem isSome_set {w:World} {a p:Addr} {v:Value} (h:(w.cell? p).isSome=true):((w.setCell a v).cell? p).isSome=true:=by
 have:=World.isSome_setCells a.block [v] a.off w p h
 by_cases e:a=p
 ·subst e;rw[World.cell?_setCell_same' w a v h];rfl
 ·rw[World.cell?_setCell_other w a p v e];exact h
theorem res_set {w:World} {b:Nat} (h:ResB w b) (a:Addr) (v:Value):ResB (w.setCell a v) b:=fun i hi=>⟨by rw[World.frozen?_setCell];exact(h i hi).1,isSome_set (h i hi).2⟩
theorem set4 {w:World} {b:Nat} {u0 u1 u2 u3:Value} (v0 v1 v2 v3:Value) (i0:w.cell? ⟨b,0,none⟩=some u0) (i1:w.cell? ⟨b,1,none⟩=some u1) (i2:w.cell? ⟨b,2,none⟩=some u2) (i3:w.cell? ⟨b,3,none⟩=some u3) :
  ((((w.setCell ⟨b,0,none⟩ v0).setCell ⟨b,1,none⟩ v1).setCell ⟨b,2,none⟩ v2).setCell ⟨b,3,none⟩ v3).cell? ⟨b,0,none⟩=some v0 ∧
  ((((w.setCell ⟨b,0,none⟩ v0).setCell ⟨b,1,none⟩ v1).setCell ⟨b,2,none⟩ v2).setCell ⟨b,3,none⟩ v3).cell? ⟨b,1,none⟩=some v1 ∧
  ((((w.setCell ⟨b,0,none⟩ v0).setCell ⟨b,1,none⟩ v1).setCell ⟨b,2,none⟩ v2).setCell ⟨b,3,none⟩ v3).cell? ⟨b,2,none⟩=some v2 ∧
  ((((w.setCell ⟨b,0,none⟩ v0).setCell ⟨b,1,none⟩ v1).setCell ⟨b,2,none⟩ v2).setCell ⟨b,3,none⟩ v3).cell? ⟨b,3,none⟩=some v3:=by
 refine⟨?_,?_,?_,?_⟩ <;> simp[World.cell?_setCell_other,World.cell?_setCell_same',i0,i1,i2,i3]
theorem far_set {w:World} {p:Addr} {u:Value} (h:w.cell? p=some u) (a:Addr) (v:Value) (hne:a.block≠p.block):(w.setCell a v).cell? p=some u:=by
 rw[World.cell?_setCell_far w a p v hne];exact h
theorem bl_set {w W:World} (h:Below w.heap.size w W) {a:Addr} (ha:w.heap.size≤a.block) (v:Value):Below w.heap.size w (W.setCell a v):=h.setCell ha v
theorem set4r {w:World} {b:Nat} {v0 v1 v2 v3:Value} (h:ResB w b) :
  ((((w.setCell ⟨b,0,none⟩ v0).setCell ⟨b,1,none⟩ v1).setCell ⟨b,2,none⟩ v2).setCell ⟨b,3,none⟩ v3).cell? ⟨b,0,none⟩=some v0 ∧
  ((((w.setCell ⟨b,0,none⟩ v0).setCell ⟨b,1,none⟩ v1).setCell ⟨b,2,none⟩ v2).setCell ⟨b,3,none⟩ v3).cell? ⟨b,1,none⟩=some v1 ∧
  ((((w.setCell ⟨b,0,none⟩ v0).setCell ⟨b,1,none⟩ v1).setCell ⟨b,2,none⟩ v2).setCell ⟨b,3,none⟩ v3).cell? ⟨b,2,none⟩=some v2 ∧
  ((((w.setCell ⟨b,0,none⟩ v0).setCell ⟨b,1,none⟩ v1).setCell ⟨b,2,none⟩ v2).setCell ⟨b,3,none⟩ v3).cell? ⟨b,3,none⟩=some v3:=by
 obtain⟨f0,f1,f2,f3,u0,u1,u2,u3,i0,i1,i2,i3⟩:=res_all h
 exact set4 v0 v1 v2 v3 i0 i1 i2 i3
theorem far4 {w:World} {p:Addr} {u:Value} (h:w.cell? p=some u) {b:Nat} (hne:b≠p.block) {v0 v1 v2 v3:Value} :
  ((((w.setCell ⟨b,0,none⟩ v0).setCell ⟨b,1,none⟩ v1).setCell ⟨b,2,none⟩ v2).setCell ⟨b,3,none⟩ v3).cell? p=some u :=
 far_set (far_set (far_set (far_set h _ _ hne) _ _ hne) _ _ hne) _ _ hne
theorem res4 {w:World} {b b':Nat} (h:ResB w b') {v0 v1 v2 v3:Value} :
  ResB ((((w.setCell ⟨b,0,none⟩ v0).setCell ⟨b,1,none⟩ v1).setCell ⟨b,2,none⟩ v2).setCell ⟨b,3,none⟩ v3) b':=res_set (res_set (res_set (res_set h _ _) _ _) _ _) _ _
theorem bl4 {w W:World} (h:Below w.heap.size w W) {b:Nat} (hb:w.heap.size≤b) {v0 v1 v2 v3:Value} :
  Below w.heap.size w ((((W.setCell ⟨b,0,none⟩ v0).setCell ⟨b,1,none⟩ v1).setCell ⟨b,2,none⟩ v2).setCell ⟨b,3,none⟩ v3) :=
 bl_set (bl_set (bl_set (bl_set h hb _) hb _) hb _) hb _
end Go.Proofs.YtmhikkbdhboodaaGreat

namespace Go.Proofs.YtmhikkbdhboodaaGreat
open Go.RowKit
set_option linter.unusedVariables false
set_option linter.unusedSimpArgs false

abbrev P6 (w:World) (b:Nat) (k l d bb cc:Int) (o:Bool) (T:Prop):Prop :=
 w.cell? ⟨b,0,none⟩=some (.int .i64 k)∧w.cell? ⟨b,1,none⟩=some (.int .i64 l)∧w.cell? ⟨b,2,none⟩=some (.int .i64 d)∧w.cell? ⟨b,3,none⟩=some (.int .i64 bb)∧w.cell? ⟨b,4,none⟩=some (.int .i64 cc)∧w.cell? ⟨b,5,none⟩=some (.bool o)∧T
abbrev S4 (w:World) (b:Nat) (x y z:Int) (a:Option Addr) (n c:Nat) (T:Prop):Prop :=
 w.cell? ⟨b,0,none⟩=some (.int .i64 x)∧w.cell? ⟨b,1,none⟩=some (.int .i64 y)∧w.cell? ⟨b,2,none⟩=some (.int .i64 z)∧w.cell? ⟨b,3,none⟩=some (.slice a n c)∧T
abbrev X3 (w:World) (b:Nat) (x y z:Int) (T:Prop):Prop :=
 w.cell? ⟨b,0,none⟩=some (.int .i64 x)∧w.cell? ⟨b,1,none⟩=some (.int .i64 y)∧w.cell? ⟨b,2,none⟩=some (.int .i64 z)∧T
theorem b6 {W w1:World} (b:Nat) (k l d bb cc:Int) (o:Bool) (hb:Below W.heap.size W w1)
  (h0:W.cell? ⟨b,0,none⟩=some (.int .i64 k):=by go_simp) (h1:W.cell? ⟨b,1,none⟩=some (.int .i64 l):=by go_simp) (h2:W.cell? ⟨b,2,none⟩=some (.int .i64 d):=by go_simp)
  (h3:W.cell? ⟨b,3,none⟩=some (.int .i64 bb):=by go_simp) (h4:W.cell? ⟨b,4,none⟩=some (.int .i64 cc):=by go_simp) (h5:W.cell? ⟨b,5,none⟩=some (.bool o):=by go_simp) :
  w1.cell? ⟨b,0,none⟩=some (.int .i64 k)∧w1.cell? ⟨b,1,none⟩=some (.int .i64 l)∧w1.cell? ⟨b,2,none⟩=some (.int .i64 d)∧w1.cell? ⟨b,3,none⟩=some (.int .i64 bb)∧w1.cell? ⟨b,4,none⟩=some (.int .i64 cc)∧w1.cell? ⟨b,5,none⟩=some (.bool o) :=
 ⟨bl_cell hb h0,bl_cell hb h1,bl_cell hb h2,bl_cell hb h3,bl_cell hb h4,bl_cell hb h5⟩
theorem b4 {W w1:World} (b:Nat) (x y z:Int) (a:Option Addr) (n c:Nat) (hb:Below W.heap.size W w1)
  (h0:W.cell? ⟨b,0,none⟩=some (.int .i64 x):=by go_simp) (h1:W.cell? ⟨b,1,none⟩=some (.int .i64 y):=by go_simp) (h2:W.cell? ⟨b,2,none⟩=some (.int .i64 z):=by go_simp) (h3:W.cell? ⟨b,3,none⟩=some (.slice a n c):=by go_simp) :
  w1.cell? ⟨b,0,none⟩=some (.int .i64 x)∧w1.cell? ⟨b,1,none⟩=some (.int .i64 y)∧w1.cell? ⟨b,2,none⟩=some (.int .i64 z)∧w1.cell? ⟨b,3,none⟩=some (.slice a n c) :=
 ⟨bl_cell hb h0,bl_cell hb h1,bl_cell hb h2,bl_cell hb h3⟩
theorem b3 {W w1:World} (b:Nat) (x y z:Int) (hb:Below W.heap.size W w1)
  (h0:W.cell? ⟨b,0,none⟩=some (.int .i64 x):=by go_simp) (h1:W.cell? ⟨b,1,none⟩=some (.int .i64 y):=by go_simp) (h2:W.cell? ⟨b,2,none⟩=some (.int .i64 z):=by go_simp) :
  w1.cell? ⟨b,0,none⟩=some (.int .i64 x)∧w1.cell? ⟨b,1,none⟩=some (.int .i64 y)∧w1.cell? ⟨b,2,none⟩=some (.int .i64 z) :=
 ⟨bl_cell hb h0,bl_cell hb h1,bl_cell hb h2⟩
theorem lbc {w:World} {b i:Nat} {v:Value} (h:w.cell? ⟨b,i,none⟩=some v):b<w.heap.size:=World.block_lt_of_cell? w _ h
theorem k1 {w:World} {a:Obj}:Below w.heap.size w (w.alloc a):=bl_alloc (bl_refl _) _
theorem k2 {w:World} {a b:Obj}:Below w.heap.size w ((w.alloc a).alloc b):=bl_alloc (bl_alloc (bl_refl _) _) _
theorem k3 {w:World} {a b c:Obj}:Below w.heap.size w (((w.alloc a).alloc b).alloc c):=bl_alloc (bl_alloc (bl_alloc (bl_refl _) _) _) _
theorem k4 {w:World} {a b c d:Obj}:Below w.heap.size w ((((w.alloc a).alloc b).alloc c).alloc d):=bl_alloc (bl_alloc (bl_alloc (bl_alloc (bl_refl _) _) _) _) _
theorem k5 {w:World} {a b c d e:Obj}:Below w.heap.size w (((((w.alloc a).alloc b).alloc c).alloc d).alloc e):=bl_alloc (bl_alloc (bl_alloc (bl_alloc (bl_alloc (bl_refl _) _) _) _) _) _
theorem szl {w w1:World} {b n:Nat} (hb:Below b w w1) (h:n≤w.heap.size:=by first|omega|(simp;omega)|simp):n≤w1.heap.size:=Nat.le_trans h hb.size
section
variable {P:Program} {l:List Oper} {Q:Exit→Act→World→Prop} {S:World→Prop}
theorem tkx (i:Nat) {oi:Oper} {rest:List Oper} {v:Value} {fuel:Nat} {listed:Array Bool} {a a':Act} {w:World}
  (h:wpAnyH P .any l.toArray Q S fuel (listed.setIfInBounds i true) a' w)
  (hl:l.drop i=oi :: rest:=by exact rfl) (hw:Region.wanted oi (yielded l.toArray a.tmps)=true:=by exact rfl) (hS:S w:=by assumption)
  (hy:∀ w,S w→(execOp a.eval oi).run P w=.ok (.value v) w:=by(intro w hSw;(try dsimp only at hSw);go_simp <;> with_reducible rfl))
  (he:a.put oi.dst v=a':=by((try simp only[Act.put,List.setIfInBounds_toArray,List.set_cons_zero,List.set_cons_succ]);with_reducible rfl))
  (hs:Region.noSelect l.toArray=true:=by kernel_rfl) (hf:Region.free .any l.toArray listed i=true:=by kernel_rfl)
  (hr:(Region.ready .any l.toArray listed).contains i=true:=by kernel_rfl)
  (hQ:∀ c a w,Q (.panic c) (a.put oi.dst v) w→Q (.panic c) a w:=by exact fun _ _ _ h=>h):wpAnyH P .any l.toArray Q S (fuel+1) listed a w :=
 wpAnyH_take (by simpa using drop_get hl) hs hf hr hQ (Or.inl ⟨hw,hy⟩) hS (he ▸ h)
theorem tqx (i:Nat) {oi:Oper} {rest:List Oper} {fuel:Nat} {listed:Array Bool} {a a':Act} {w:World}
  (h:wpAnyH P .any l.toArray Q S fuel (listed.setIfInBounds i true) a' w)
  (hl:l.drop i=oi :: rest:=by exact rfl) (hw:Region.wanted oi (yielded l.toArray a.tmps)=false:=by exact rfl) (hS:S w:=by assumption)
  (he:a.put oi.dst undef=a':=by((try simp only[Act.put,List.setIfInBounds_toArray,List.set_cons_zero,List.set_cons_succ]);with_reducible rfl))
  (hs:Region.noSelect l.toArray=true:=by kernel_rfl) (hf:Region.free .any l.toArray listed i=true:=by kernel_rfl)
  (hr:(Region.ready .any l.toArray listed).contains i=true:=by kernel_rfl)
  (hQ:∀ c a w,Q (.panic c) (a.put oi.dst undef) w→Q (.panic c) a w:=by exact fun _ _ _ h=>h):wpAnyH P .any l.toArray Q S (fuel+1) listed a w :=
 wpAnyH_take (by simpa using drop_get hl) hs hf hr hQ (Or.inr ⟨hw,rfl⟩) hS (he ▸ h)
end
end Go.Proofs.YtmhikkbdhboodaaGreat

namespace Go.Proofs.YtmhikkbdhboodaaGreat
set_option linter.unusedVariables false
set_option linter.unusedSimpArgs false

/-- A policy. -/
structure Pol where
 kind:Int
 limit:Int
 period:Int
 burst:Int
 cap:Int
 opn:Bool
/-- A state. -/
structure St where
 at_:Int
 level:Int
 held:Int
 log:List (Int × Int)
/-- An act. -/
structure Ac where
 kind:Int
 now:Int
 cost:Int
def St.none:St:=⟨0,0,0,[]⟩
def up (a b:Int):Int:=if a<b then b else a
def dn (a b:Int):Int:=if b<a then b else a
/-- A number by another, rounded up; 0 below 0. -/
def ceilD (n d:Int):Int:=if n≤0 then 0 else(n+d - 1) / d

/-! ### bucket -/
def okB (p:Pol):Prop:=p.kind=1∧1≤p.limit∧1≤p.burst∧1≤p.period∧p.limit≤1048576∧p.burst≤1048576∧p.period≤1099511627776∧p.cap=0
instance (p:Pol):Decidable (okB p):=by unfold okB;infer_instance
def rightB (p:Pol) (s:St):Prop:=okB p∧0≤s.at_∧s.at_≤9007199254740992∧0≤s.held∧s.held≤p.burst∧0≤s.level∧s.level≤(p.burst - s.held)*p.period∧s.log=[]
instance (p:Pol) (s:St):Decidable (rightB p s):=by unfold rightB;infer_instance
def advB (p:Pol) (s:St) (now:Int):St :=
 if rightB p s then⟨up s.at_ (clampT now),s.level+dn (p.limit*(up s.at_ (clampT now) - s.at_)) ((p.burst - s.held)*p.period - s.level),s.held,[]⟩ else St.none
def newB (p:Pol) (now:Int):St:=if okB p then⟨clampT now,p.burst*p.period,0,[]⟩ else St.none
def roomB (p:Pol) (s:St) (now:Int):Int:=if rightB p s then(advB p s now).level / p.period else 0
def actB (p:Pol) (t:St) (a:Ac):St × Bool :=
 if a.kind=1 then({ t with level:=t.level - a.cost*p.period },decide (0≤t.level - a.cost*p.period))
 else if a.kind=2 then({ t with level:=t.level - a.cost*p.period,held:=t.held+a.cost },decide (0≤t.level - a.cost*p.period))
 else if a.kind=3 then({ t with level:=t.level+a.cost*p.period,held:=t.held - a.cost },decide (0≤t.held - a.cost))
 else if a.kind=4 then({ t with held:=t.held - a.cost },decide (0≤t.held - a.cost))
 else(t,false)
def doB (p:Pol) (s:St) (a:Ac):St × Bool :=
 if rightB p s then
  if a.cost<1∨p.burst<a.cost∨(actB p (advB p s a.now) a).2=false then(s,false) else actB p (advB p s a.now) a
 else(St.none,false)
def untilB (p:Pol) (s:St) (now:Int):Int:=if rightB p s∧s.held≤0 then ceilD (p.burst*p.period - (advB p s now).level) p.limit else -1
def okG (p:Pol):Prop:=p.kind=2∧p.cap=0∧1≤p.limit∧p.limit≤1048576∧1≤p.burst∧p.burst≤1048576∧1≤p.period∧p.period≤1099511627776
instance (p:Pol):Decidable (okG p):=by unfold okG;infer_instance
def rightG (p:Pol) (s:St):Prop:=okG p∧0≤s.at_∧s.at_≤9007199254740992∧0≤s.held∧s.held≤p.burst∧s.held*p.period≤s.level∧s.level≤p.burst*p.period∧s.log=[]
instance (p:Pol) (s:St):Decidable (rightG p s):=by unfold rightG;infer_instance
def advG (p:Pol) (s:St) (now:Int):St :=
 if rightG p s then⟨up s.at_ (clampT now),up (s.level - (up s.at_ (clampT now) - s.at_)*p.limit) (s.held*p.period),s.held,[]⟩ else St.none
def newG (p:Pol) (now:Int):St:=if okG p then⟨clampT now,0,0,[]⟩ else St.none
def roomG (p:Pol) (s:St) (now:Int):Int:=if rightG p s then(p.burst*p.period - (advG p s now).level) / p.period else 0
def actG (p:Pol) (t:St) (a:Ac):St :=
 if a.kind=1 then { t with level:=t.level+a.cost*p.period }
 else if a.kind=2 then { t with level:=t.level+a.cost*p.period,held:=t.held+a.cost }
 else if a.kind=3 then { t with level:=t.level - a.cost*p.period,held:=t.held - a.cost }
 else { t with held:=t.held - a.cost }
def doG (p:Pol) (s:St) (a:Ac):St × Bool :=
 if rightG p s then
  if a.cost<1∨p.burst<a.cost∨a.kind<1∨4<a.kind∨(actG p (advG p s a.now) a).held<0∨p.burst*p.period<(actG p (advG p s a.now) a).level then(s,false) else(actG p (advG p s a.now) a,true)
 else(St.none,false)
def untilG (p:Pol) (s:St) (now:Int):Int:=if rightG p s∧s.held≤0 then ceilD (advG p s now).level p.limit else -1
def sumL:List (Int × Int)→Int
 | []=>0
 | e :: l=>e.2+sumL l
def okL (p:Pol):Prop:=p.kind=3∧1≤p.limit∧1≤p.period∧1≤p.cap∧p.limit≤1048576∧p.period≤1099511627776∧p.cap≤100∧p.burst=0
instance (p:Pol):Decidable (okL p):=by unfold okL;infer_instance
/-- Entries that rise, till some time. -/
def risen (limit at_:Int):Int→List (Int × Int)→Prop
 | _,[]=>True
 | was,e :: l=>was≤e.1∧e.1≤at_∧1≤e.2∧e.2≤limit∧risen limit at_ e.1 l
instance risen_dec (limit at_:Int):∀ (was:Int) (l:List (Int × Int)),Decidable (risen limit at_ was l)
 | _,[]=>isTrue trivial
 | was,e :: l=>by
  have:=risen_dec limit at_ e.1 l
  unfold risen
  infer_instance
def rightL (p:Pol) (s:St):Prop:=okL p∧0≤s.at_∧s.at_≤9007199254740992∧0≤s.held∧s.held≤p.limit∧s.level=0∧risen p.limit s.at_ 0 s.log∧(s.log.length:Int)≤p.cap∧s.held+sumL s.log≤p.limit
instance (p:Pol) (s:St):Decidable (rightL p s):=by unfold rightL;infer_instance
/-- What is not too old. -/
def live (period t:Int):List (Int × Int)→List (Int × Int)
 | []=>[]
 | e :: l=>if t - e.1<period then e :: l else live period t l
def advL (p:Pol) (s:St) (now:Int):St:=if rightL p s then⟨up s.at_ (clampT now),0,s.held,live p.period (up s.at_ (clampT now)) s.log⟩ else St.none
def newL (p:Pol) (now:Int):St:=if okL p then⟨clampT now,0,0,[]⟩ else St.none
def roomL (p:Pol) (s:St) (now:Int):Int:=if rightL p s then p.limit - s.held - sumL (advL p s now).log else 0
/-- With some cost more. -/
def noteL (full:Bool) (at_ cost:Int):List (Int × Int)→List (Int × Int)
 | []=>[(at_,cost)]
 | [e]=>if e.1=at_∨full=true then[(at_,e.2+cost)] else[e,(at_,cost)]
 | e :: f :: l=>e :: noteL full at_ cost (f :: l)
def noted (p:Pol) (t:St) (cost:Int):St := { t with log:=noteL (decide ((t.log.length:Int)=p.cap)) t.at_ cost t.log }
def doL (p:Pol) (s:St) (a:Ac):St × Bool :=
 if rightL p s then
  if 1≤a.cost∧a.kind=1∧a.cost≤p.limit - s.held - sumL (advL p s a.now).log then(noted p (advL p s a.now) a.cost,true)
  else if 1≤a.cost∧a.kind=2∧a.cost≤p.limit - s.held - sumL (advL p s a.now).log then({ advL p s a.now with held:=s.held+a.cost },true)
  else if 1≤a.cost∧a.kind=3∧a.cost≤s.held then({ advL p s a.now with held:=s.held - a.cost },true)
  else if 1≤a.cost∧a.kind=4∧a.cost≤s.held then(noted p { advL p s a.now with held:=s.held - a.cost } a.cost,true)
  else(s,false)
 else(St.none,false)
/-- The last entry's time. -/
def lastT:List (Int × Int)→Int
 | []=>0
 | [e]=>e.1
 | _ :: f :: l=>lastT (f :: l)
def untilL (p:Pol) (s:St) (now:Int):Int :=
 if rightL p s∧s.held≤0 then(if (advL p s now).log=[] then 0 else lastT (advL p s now).log+p.period - (advL p s now).at_) else -1
def okC (p:Pol):Prop:=p.kind=4∧1≤p.limit∧1≤p.period∧p.limit≤1048576∧p.period≤1099511627776∧p.burst=0∧p.cap=0
instance (p:Pol):Decidable (okC p):=by unfold okC;infer_instance
def rightC (p:Pol) (s:St):Prop:=okC p∧0≤s.at_∧s.at_≤9007199254740992∧0≤s.held∧0≤s.level∧s.held≤p.limit∧s.level≤p.limit∧s.held+s.level≤p.limit∧s.log=[]
instance (p:Pol) (s:St):Decidable (rightC p s):=by unfold rightC;infer_instance
def advC (p:Pol) (s:St) (now:Int):St :=
 if rightC p s then⟨up s.at_ (clampT now),if up s.at_ (clampT now) / p.period=s.at_ / p.period then s.level else 0,s.held,[]⟩ else St.none
def newC (p:Pol) (now:Int):St:=if okC p then⟨clampT now,0,0,[]⟩ else St.none
def roomC (p:Pol) (s:St) (now:Int):Int:=if rightC p s then p.limit - s.held - (advC p s now).level else 0
def doC (p:Pol) (s:St) (a:Ac):St × Bool :=
 if rightC p s then
  if a.cost<1 then(s,false)
  else if a.kind=1∧a.cost≤p.limit - s.held - (advC p s a.now).level then({ advC p s a.now with level:=(advC p s a.now).level+a.cost },true)
  else if a.kind=2∧a.cost≤p.limit - s.held - (advC p s a.now).level then({ advC p s a.now with held:=s.held+a.cost },true)
  else if a.kind=3∧a.cost≤s.held then({ advC p s a.now with held:=s.held - a.cost },true)
  else if a.kind=4∧a.cost≤s.held then({ advC p s a.now with held:=s.held - a.cost,level:=(advC p s a.now).level+a.cost },true)
  else(s,false)
 else(St.none,false)
def untilC (p:Pol) (s:St) (now:Int):Int :=
 if rightC p s∧s.held≤0 then(if 0<(advC p s now).level then p.period - (advC p s now).at_ % p.period else 0) else -1
theorem prod_le {b d:Int} (h:b≤1048576) (h0:0≤d) (h1:d≤1099511627776):b*d≤1152921504606846976:=by
 have h2:b*d≤1048576*d:=Int.mul_le_mul_of_nonneg_right h h0
 omega

theorem advB_level (p:Pol) (s:St) (now:Int) (h:rightB p s):0≤(advB p s now).level∧(advB p s now).level≤1152921504606846976∧(advB p s now).level≤(p.burst - s.held)*p.period:=by
 unfold advB
 rw[if_pos h]
 obtain⟨⟨q0,q1,q2,q3,q4,q5,q6,q7⟩,r1,r2,r3,r4,r5,r6,r7⟩:=h
 have hM:(p.burst - s.held)*p.period≤1152921504606846976:=prod_le (by omega) (by omega) (by omega)
 have hcr:=clampT_range now
 have hT:s.at_≤up s.at_ (clampT now):=by unfold up;split <;> omega
 have hDD0:0≤p.limit*(up s.at_ (clampT now) - s.at_):=Int.mul_nonneg (by omega) (by omega)
 dsimp only
 unfold dn
 split <;> omega
theorem advB_held (p:Pol) (s:St) (now:Int) (h:rightB p s):(advB p s now).held=s.held:=by unfold advB;rw[if_pos h]
end Go.Proofs.YtmhikkbdhboodaaGreat

namespace Go.Proofs.YtmhikkbdhboodaaGreat
open Go.RowKit
set_option linter.unusedVariables false
set_option linter.unusedSimpArgs false

def Pol.v (p:Pol):Value:=.agg #[.int .i64 p.kind,.int .i64 p.limit,.int .i64 p.period,.int .i64 p.burst,.int .i64 p.cap,.bool p.opn]
def St.v (s:St) (a:Option Addr) (n c:Nat):Value:=.agg #[.int .i64 s.at_,.int .i64 s.level,.int .i64 s.held,.slice a n c]
def chkB (p:Pol):Int:=if okB p then 0 else 2
theorem fld_level (a b c d:Value) (w:World):(Instr.field 26 (.agg #[a,b,c,d]) 1).run Tryz.prog w=.ok b w:=by kernel_rfl
theorem chk_ok {p:Pol} (h:okB p):0=chkB p:=by unfold chkB;rw[if_pos h]
theorem chk_no {p:Pol} (h:¬ okB p):2=chkB p:=by unfold chkB;rw[if_neg h]

theorem bcheck_any (p:Pol) (w:World):Calls Tryz.prog 119 #[p.v] w fun e w'=>e=.returned (.int .i64 (chkB p))∧Below w.heap.size w w':=by
 obtain⟨k,l,d,b,c,o⟩:=p
 have hC:chkB ⟨k,l,d,b,c,o⟩=chkB ⟨k,l,d,b,c,o⟩:=rfl
 generalize hX:chkB ⟨k,l,d,b,c,o⟩=C at *
 have HX:=Go.Lib.hid hX
 clear hX hC
 unfold Pol.v
 go_enter Tryz.func119,Tryz.ntmps119
 go_wp2
 all_goals
  go_ret
  have hX:=HX.out
  refine⟨congrArg (fun x=>Ending.returned (.int .i64 x)) ?_,k1⟩
  rw[← hX]
  try simp only[bne_iff_ne,ne_eq,bne_eq_false_iff_eq] at *
  first
   | (refine chk_ok ?_;unfold okB;dsimp only;omega)
   | (refine chk_no ?_;unfold okB;dsimp only;intro hh;obtain⟨q0,q1,q2,q3,q4,q5,q6,q7⟩:=hh;omega)
theorem results_state {fn:Func} {x:Tmp} (h:fn.results = #[.cell x 26]) (tmps:Array Value) (w:World) {b:Nat} {v0 v1 v2 v3:Value} (hx:tmps.getD x undef=.pointer (some ⟨b,0,none⟩))
  (hc:w.cell? ⟨b,0,none⟩=some v0∧w.cell? ⟨b,1,none⟩=some v1∧w.cell? ⟨b,2,none⟩=some v2∧w.cell? ⟨b,3,none⟩=some v3) :
  (results fn tmps).run Tryz.prog w=.ok (.agg #[v0,v1,v2,v3]) w:=by
 obtain⟨i0,i1,i2,i3⟩:=hc
 have hx':tmps[x]?.getD undef=.pointer (some ⟨b,0,none⟩):=by simpa using hx
 unfold results
 simp[h,hx',go_sem,i0,i1,i2,i3]
theorem results_state2 {fn:Func} {x t:Tmp} (h:fn.results = #[.cell x 26,.tmp t]) (tmps:Array Value) (w:World) {b:Nat} {v0 v1 v2 v3:Value} (hx:tmps.getD x undef=.pointer (some ⟨b,0,none⟩))
  (hc:w.cell? ⟨b,0,none⟩=some v0∧w.cell? ⟨b,1,none⟩=some v1∧w.cell? ⟨b,2,none⟩=some v2∧w.cell? ⟨b,3,none⟩=some v3) :
  (results fn tmps).run Tryz.prog w=.ok (.tuple #[.agg #[v0,v1,v2,v3],tmps.getD t undef]) w:=by
 obtain⟨i0,i1,i2,i3⟩:=hc
 have hx':tmps[x]?.getD undef=.pointer (some ⟨b,0,none⟩):=by simpa using hx
 unfold results
 simp[h,hx',go_sem,i0,i1,i2,i3]
def inB (n l m:Int):Bool:=decide (l≤n) && decide (n≤m)
theorem inB_iff {n l m:Int}:inB n l m=true↔l≤n∧n≤m:=by unfold inB;simp
theorem inB_no {n l m:Int} (h:¬ (l≤n∧n≤m)):inB n l m=false:=by
 cases e:inB n l m
 ·rfl
 ·exact absurd (inB_iff.1 e) h

theorem in_any (n l m:Int) (w:World):Calls Tryz.prog 150 #[.int .i64 n,.int .i64 l,.int .i64 m] w fun e w'=>e=.returned (.bool (inB n l m))∧w=w':=by
 by_cases h1:l≤n
 ·by_cases h2:n≤m
  ·rw[inB_iff.2 ⟨h1,h2⟩]
   go_enter Tryz.func150,Tryz.ntmps150
   go_wp2_with fail
   go_ret
   exact⟨by first|rfl|simp[h2],rfl⟩
  ·rw[inB_no (fun h=>h2 h.2)]
   go_enter Tryz.func150,Tryz.ntmps150
   go_wp2_with fail
   go_ret
   exact⟨by first|rfl|simp[h2],rfl⟩
 ·rw[inB_no (fun h=>h1 h.1)]
  go_enter Tryz.func150,Tryz.ntmps150
  go_wp2_with fail
  go_ret
  exact⟨by first|rfl|simp[h1],rfl⟩

def chkG (p:Pol):Int:=if okG p then 0 else 2

theorem gcheck_walk (k l d b cc:Int) (o:Bool) (w:World) (r:Int) (hk:k=2) (hc:cc=0) (hr:r=if inB l 1 1048576 && (inB b 1 1048576 && inB d 1 1099511627776) then 0 else 2) :
  Calls Tryz.prog 95 #[.agg #[.int .i64 k,.int .i64 l,.int .i64 d,.int .i64 b,.int .i64 cc,.bool o]] w fun e w'=>e=.returned (.int .i64 r)∧Below w.heap.size w w':=by
 subst hk hc
 cases h1:inB l 1 1048576
 ·rw[h1] at hr
  simp at hr
  subst hr
  go_enter Tryz.func95,Tryz.ntmps95
  go_wp2_with (go_at_call 150;refine(in_any _ _ _ _).mono ?_;rintro e w' ⟨rfl,rfl⟩)
  go_ret
  exact⟨rfl,k1⟩
 ·rw [h1] at hr
  cases h2:inB b 1 1048576
  ·rw[h2] at hr
   simp at hr
   subst hr
   go_enter Tryz.func95,Tryz.ntmps95
   go_wp2_with (go_at_call 150;refine(in_any _ _ _ _).mono ?_;rintro e w' ⟨rfl,rfl⟩)
   go_ret
   exact⟨rfl,k1⟩
  ·rw [h2] at hr
   cases h3:inB d 1 1099511627776
   all_goals
    rw[h3] at hr
    simp at hr
    subst hr
    go_enter Tryz.func95,Tryz.ntmps95
    go_wp2_with (go_at_call 150;refine(in_any _ _ _ _).mono ?_;rintro e w' ⟨rfl,rfl⟩)
    go_ret
    exact⟨rfl,k1⟩

theorem gcheck_no (k l d b cc:Int) (o:Bool) (w:World) (h:k≠2∨k=2∧cc≠0) :
  Calls Tryz.prog 95 #[.agg #[.int .i64 k,.int .i64 l,.int .i64 d,.int .i64 b,.int .i64 cc,.bool o]] w fun e w'=>e=.returned (.int .i64 2)∧Below w.heap.size w w':=by
 rcases h with h|⟨rfl,h⟩
 ·go_enter Tryz.func95,Tryz.ntmps95
  go_wp2_with fail
  go_ret
  exact⟨rfl,k1⟩
 ·go_enter Tryz.func95,Tryz.ntmps95
  go_wp2_with fail
  go_ret
  exact⟨rfl,k1⟩

theorem gcheck_any (p:Pol) (w:World):Calls Tryz.prog 95 #[p.v] w fun e w'=>e=.returned (.int .i64 (chkG p))∧Below w.heap.size w w':=by
 obtain⟨k,l,d,b,cc,o⟩:=p
 by_cases hk:k=2
 ·by_cases hc:cc=0
  ·refine gcheck_walk k l d b cc o w _ hk hc ?_
   unfold chkG
   by_cases h:okG ⟨k,l,d,b,cc,o⟩
   ·rw[if_pos h]
    obtain⟨q0,q1,q2,q3,q4,q5,q6,q7⟩:=h
    dsimp only at *
    rw[inB_iff.2 ⟨q2,q3⟩,inB_iff.2 ⟨q4,q5⟩,inB_iff.2 ⟨q6,q7⟩]
    rfl
   ·rw [if_neg h]
    cases h1:inB l 1 1048576
    ·rfl
    cases h2:inB b 1 1048576
    ·rfl
    cases h3:inB d 1 1099511627776
    ·rfl
    ·rw[inB_iff] at h1 h2 h3
     exact absurd ⟨hk,hc,h1.1,h1.2,h2.1,h2.2,h3.1,h3.2⟩ h
  ·have e:chkG ⟨k,l,d,b,cc,o⟩=2:=if_neg (fun h=>hc h.2.1)
   rw[e]
   exact gcheck_no k l d b cc o w (.inr ⟨hk,hc⟩)
 ·have e:chkG ⟨k,l,d,b,cc,o⟩=2:=if_neg (fun h=>hk h.1)
  rw[e]
  exact gcheck_no k l d b cc o w (.inl hk)
theorem gright_walk (k l d b cc:Int) (o:Bool) (at_ level held:Int) (a:Option Addr) (n c:Nat) (w:World) (r:Bool) (C x3 x4:Int) (g1 g2 g3 g4:Bool)
  (hck:∀ w,Calls Tryz.prog 95 #[.agg #[.int .i64 k,.int .i64 l,.int .i64 d,.int .i64 b,.int .i64 cc,.bool o]] w fun e w'=>e=.returned (.int .i64 C)∧Below w.heap.size w w')
  (hC:C=0∨C=2) (h1:inB at_ 0 9007199254740992=g1) (h2:inB held 0 b=g2) (h3:C=0→g2=true→IntKind.i64.wrap (held*d)=x3∧IntKind.i64.wrap (b*d)=x4) (h4:inB level x3 x4=g3) (h5:((n:Int) == 0)=g4)
  (hr:r=((C == 0) && (g1 && (g2 && (g3 && g4))))) :
  Calls Tryz.prog 97 #[.agg #[.int .i64 k,.int .i64 l,.int .i64 d,.int .i64 b,.int .i64 cc,.bool o],.agg #[.int .i64 at_,.int .i64 level,.int .i64 held,.slice a n c]] w fun e w'=>e=.returned (.bool r)∧Below w.heap.size w w':=by
 have HCK:=Go.Lib.hid hck
 clear hck
 rcases hC with rfl|rfl
 ·cases g1
  ·simp at hr
   subst hr
   clear h2 h3 h4 h5
   go_enter Tryz.func97,Tryz.ntmps97
   go_wp2_with fail
   refine(HCK.out _).mono ?_
   rintro e w1 ⟨rfl,hb⟩
   have hB:Below w.heap.size w w1:=bl_then k2 hb
   obtain⟨c0,c1,c2,c3,c4,c5⟩:=b6 (w.heap.size) k l d b cc o hb
   have c6:=bl_cell (v:=.int .i64 at_) hb (show World.cell? _ ⟨w.heap.size+1,0,none⟩=_ by go_simp)
   have c7:=bl_cell (v:=.int .i64 level) hb (show World.cell? _ ⟨w.heap.size+1,1,none⟩=_ by go_simp)
   have c8:=bl_cell (v:=.int .i64 held) hb (show World.cell? _ ⟨w.heap.size+1,2,none⟩=_ by go_simp)
   have c9:=bl_cell (v:=.slice a n c) hb (show World.cell? _ ⟨w.heap.size+1,3,none⟩=_ by go_simp)
   clear hb HCK
   go_wp2_with (go_at_call 150;refine(in_any _ _ _ _).mono ?_;rintro e w' ⟨rfl,rfl⟩)
   go_ret
   exact⟨by first|rfl|simp,hB⟩
  ·cases g2
   ·simp at hr
    subst hr
    clear h3 h4 h5
    go_enter Tryz.func97,Tryz.ntmps97
    go_wp2_with fail
    refine(HCK.out _).mono ?_
    rintro e w1 ⟨rfl,hb⟩
    have hB:Below w.heap.size w w1:=bl_then k2 hb
    obtain⟨c0,c1,c2,c3,c4,c5⟩:=b6 (w.heap.size) k l d b cc o hb
    have c6:=bl_cell (v:=.int .i64 at_) hb (show World.cell? _ ⟨w.heap.size+1,0,none⟩=_ by go_simp)
    have c7:=bl_cell (v:=.int .i64 level) hb (show World.cell? _ ⟨w.heap.size+1,1,none⟩=_ by go_simp)
    have c8:=bl_cell (v:=.int .i64 held) hb (show World.cell? _ ⟨w.heap.size+1,2,none⟩=_ by go_simp)
    have c9:=bl_cell (v:=.slice a n c) hb (show World.cell? _ ⟨w.heap.size+1,3,none⟩=_ by go_simp)
    clear hb HCK
    go_wp2_with (go_at_call 150;refine(in_any _ _ _ _).mono ?_;rintro e w' ⟨rfl,rfl⟩)
    go_ret
    exact⟨by first|rfl|simp,hB⟩
   ·obtain ⟨w3,w4⟩:=h3 rfl rfl
    cases g3
    ·simp at hr
     subst hr
     clear h3 h5
     go_enter Tryz.func97,Tryz.ntmps97
     go_wp2_with fail
     refine(HCK.out _).mono ?_
     rintro e w1 ⟨rfl,hb⟩
     have hB:Below w.heap.size w w1:=bl_then k2 hb
     obtain⟨c0,c1,c2,c3,c4,c5⟩:=b6 (w.heap.size) k l d b cc o hb
     have c6:=bl_cell (v:=.int .i64 at_) hb (show World.cell? _ ⟨w.heap.size+1,0,none⟩=_ by go_simp)
     have c7:=bl_cell (v:=.int .i64 level) hb (show World.cell? _ ⟨w.heap.size+1,1,none⟩=_ by go_simp)
     have c8:=bl_cell (v:=.int .i64 held) hb (show World.cell? _ ⟨w.heap.size+1,2,none⟩=_ by go_simp)
     have c9:=bl_cell (v:=.slice a n c) hb (show World.cell? _ ⟨w.heap.size+1,3,none⟩=_ by go_simp)
     clear hb HCK
     go_wp2_with (go_at_call 150;refine(in_any _ _ _ _).mono ?_;rintro e w' ⟨rfl,rfl⟩)
     go_ret
     exact⟨by first|rfl|simp,hB⟩
    ·simp at hr
     subst hr
     clear h3
     go_enter Tryz.func97,Tryz.ntmps97
     go_wp2_with fail
     refine(HCK.out _).mono ?_
     rintro e w1 ⟨rfl,hb⟩
     have hB:Below w.heap.size w w1:=bl_then k2 hb
     obtain⟨c0,c1,c2,c3,c4,c5⟩:=b6 (w.heap.size) k l d b cc o hb
     have c6:=bl_cell (v:=.int .i64 at_) hb (show World.cell? _ ⟨w.heap.size+1,0,none⟩=_ by go_simp)
     have c7:=bl_cell (v:=.int .i64 level) hb (show World.cell? _ ⟨w.heap.size+1,1,none⟩=_ by go_simp)
     have c8:=bl_cell (v:=.int .i64 held) hb (show World.cell? _ ⟨w.heap.size+1,2,none⟩=_ by go_simp)
     have c9:=bl_cell (v:=.slice a n c) hb (show World.cell? _ ⟨w.heap.size+1,3,none⟩=_ by go_simp)
     clear hb HCK
     go_wp2_with (go_at_call 150;refine(in_any _ _ _ _).mono ?_;rintro e w' ⟨rfl,rfl⟩)
     go_ret
     exact⟨congrArg (fun x=>Ending.returned (.bool x)) (by first|rfl|exact h5|simp[h5]|simp[← h5]),hB⟩
 ·simp at hr
  subst hr
  clear h1 h2 h3 h4 h5
  go_enter Tryz.func97,Tryz.ntmps97
  go_wp2_with fail
  refine(HCK.out _).mono ?_
  rintro e w1 ⟨rfl,hb⟩
  have hB:Below w.heap.size w w1:=bl_then k2 hb
  obtain⟨c0,c1,c2,c3,c4,c5⟩:=b6 (w.heap.size) k l d b cc o hb
  have c6:=bl_cell (v:=.int .i64 at_) hb (show World.cell? _ ⟨w.heap.size+1,0,none⟩=_ by go_simp)
  have c7:=bl_cell (v:=.int .i64 level) hb (show World.cell? _ ⟨w.heap.size+1,1,none⟩=_ by go_simp)
  have c8:=bl_cell (v:=.int .i64 held) hb (show World.cell? _ ⟨w.heap.size+1,2,none⟩=_ by go_simp)
  have c9:=bl_cell (v:=.slice a n c) hb (show World.cell? _ ⟨w.heap.size+1,3,none⟩=_ by go_simp)
  clear hb HCK
  go_wp2_with fail
  go_ret
  exact⟨by first|rfl|simp,hB⟩

theorem gright_any (p:Pol) (s:St) (a:Option Addr) (n c:Nat) (hn:s.log.length=n) (w:World) :
  Calls Tryz.prog 97 #[p.v,s.v a n c] w fun e w'=>e=.returned (.bool (decide (rightG p s)))∧Below w.heap.size w w':=by
 refine gright_walk p.kind p.limit p.period p.burst p.cap p.opn s.at_ s.level s.held a n c w _ (chkG p) (s.held*p.period) (p.burst*p.period) _ _ _ _ (gcheck_any p) ?_ rfl rfl ?_ rfl rfl ?_
 ·unfold chkG;split <;> simp
 ·intro hC hh
  have hok:okG p:=by unfold chkG at hC;split at hC <;> simp_all
  obtain⟨q0,q1,q2,q3,q4,q5,q6,q7⟩:=hok
  rw[inB_iff] at hh
  have e1:s.held*p.period≤1152921504606846976:=prod_le (by omega) (by omega) (by omega)
  have e2:p.burst*p.period≤1152921504606846976:=prod_le (by omega) (by omega) (by omega)
  have e3:0≤s.held*p.period:=Int.mul_nonneg (by omega) (by omega)
  have e4:0≤p.burst*p.period:=Int.mul_nonneg (by omega) (by omega)
  exact⟨IntWalk.i64_in _ (by omega),IntWalk.i64_in _ (by omega)⟩
 ·rw [Bool.eq_iff_iff]
  simp only[decide_eq_true_eq,Bool.and_eq_true,inB_iff,beq_iff_eq]
  unfold rightG chkG
  have e:(n:Int)=0↔s.log=[]:=by rw[← hn];simp only[Int.natCast_eq_zero,List.length_eq_zero_iff]
  rw[e]
  by_cases h:okG p
  ·rw[if_pos h]
   constructor
   ·rintro⟨-,x1,x2,x3,x4,x5,x6,x7⟩;exact⟨rfl,⟨x1,x2⟩,⟨x3,x4⟩,⟨x5,x6⟩,x7⟩
   ·rintro⟨-,⟨x1,x2⟩,⟨x3,x4⟩,⟨x5,x6⟩,x7⟩;exact⟨h,x1,x2,x3,x4,x5,x6,x7⟩
  ·rw[if_neg h]
   constructor
   ·intro x;exact absurd x.1 h
   ·intro x;exact absurd x.1 (by decide)
theorem ceil_nat (m n d:Int) (hd:1≤d) (hm:m=if 0≤n then n else 0) (x c:Nat) (hx:(x:Int)=m) (hc:(c:Int)=d):(((x*1+c - 1) / c:Nat):Int)=ceilD n d:=by
 unfold ceilD
 have h1:((x*1+c - 1:Nat):Int)=m+d - 1:=by omega
 rw[Int.natCast_ediv,h1,hc]
 split
 ·rename_i h
  have:m=0:=by rw[hm];split <;> omega
  subst this
  exact Int.ediv_eq_zero_of_lt (by omega) (by omega)
 ·rename_i h
  rw[if_pos (by omega)] at hm
  rw[hm]

theorem blasts_any (p:Pol) (n:Int) (w:World) (hl:1≤p.limit) (hL:p.limit≤1048576) (hn:n≤4611686018427387904) :
  Calls Tryz.prog 161 #[p.v,.int .i64 n] w fun e w'=>e=.returned (.int .i64 (ceilD n p.limit))∧Below w.heap.size w w':=by
 obtain⟨k,l,d,b,cc,o⟩:=p
 unfold Pol.v
 dsimp only at *
 obtain⟨c,hc⟩:=Int.eq_ofNat_of_zero_le (show 0≤l by omega)
 obtain⟨x,hx⟩:=Int.eq_ofNat_of_zero_le (show 0≤(if 0≤n then n else 0) by split <;> omega)
 have hx1:(x:Int)≤4611686018427387904:=by split at hx <;> omega
 have hwh:=whole_nat x 1 c (x*1) (by omega) (by omega) rfl (by omega) (by omega) (by omega)
 rw[ceil_nat (x:Int) n l (by omega) hx.symm x c rfl hc.symm,← hc,show((1:Nat):Int)=1 from rfl] at hwh
 generalize ceilD n l=R at *
 generalize (x:Int)=X at *
 clear hc hx1 c
 have HW:=Go.Lib.hid hwh
 clear hwh
 by_cases h0:0≤n
 ·rw[if_pos h0] at hx
  subst hx
  go_enter Tryz.func161,Tryz.ntmps161
  go_wp2_with fail
  refine(HW.out _).mono ?_
  rintro e w1 ⟨rfl,hb⟩
  go_wp2
  go_ret
  exact⟨rfl,bl_then k1 hb⟩
 ·rw[if_neg h0] at hx
  subst hx
  go_enter Tryz.func161,Tryz.ntmps161
  go_wp2_with fail
  refine(HW.out _).mono ?_
  rintro e w1 ⟨rfl,hb⟩
  go_wp2
  go_ret
  exact⟨rfl,bl_then k1 hb⟩

theorem bdrops_any (p:Pol) (d0 most:Int) (w:World) (hl:1≤p.limit) (hL:p.limit≤1048576) (hd:0≤d0) (hD:d0≤9007199254740992) (hm:most≤9223372036854775807) :
  Calls Tryz.prog 159 #[p.v,.int .i64 d0,.int .i64 most] w fun e w'=>e=.returned (.int .i64 (dn (p.limit*d0) most))∧Below w.heap.size w w':=by
 obtain⟨k,l,d,b,cc,o⟩:=p
 unfold Pol.v
 dsimp only at *
 have hmu:=mul_any l d0 (by omega) (by omega) hd (by omega)
 unfold mulN mulOk at hmu
 unfold dn
 generalize l*d0=M at *
 by_cases hM:M≤9223372036854775807
 ·simp only[decide_eq_true hM,if_true] at hmu
  have HM:=Go.Lib.hid hmu
  clear hmu
  by_cases h:most<M
  ·rw[if_pos h]
   have h1:¬ M<most:=by omega
   go_enter Tryz.func159,Tryz.ntmps159
   go_wp2_with fail
   refine(HM.out _).mono ?_
   rintro e w1 ⟨rfl,rfl⟩
   go_wp2
   go_ret
   exact⟨rfl,k1⟩
  ·rw [if_neg h]
   go_enter Tryz.func159,Tryz.ntmps159
   go_wp2_with fail
   refine(HM.out _).mono ?_
   rintro e w1 ⟨rfl,rfl⟩
   go_wp2
   all_goals
    go_ret
    refine⟨congrArg (fun x=>Ending.returned (.int .i64 x)) (by omega),k1⟩
 ·simp only[decide_eq_false hM] at hmu
  rw[if_pos (by omega)]
  have HM:=Go.Lib.hid hmu
  clear hmu
  go_enter Tryz.func159,Tryz.ntmps159
  go_wp2_with fail
  refine(HM.out _).mono ?_
  rintro e w1 ⟨rfl,rfl⟩
  go_wp2
  go_ret
  exact⟨rfl,k1⟩
theorem glasts_any (p:Pol) (n:Int) (w:World) (hl:1≤p.limit) (hL:p.limit≤1048576) (hn:n≤4611686018427387904) :
  Calls Tryz.prog 153 #[p.v,.int .i64 n] w fun e w'=>e=.returned (.int .i64 (ceilD n p.limit))∧Below w.heap.size w w':=by
 obtain⟨k,l,d,b,cc,o⟩:=p
 unfold Pol.v
 dsimp only at *
 obtain⟨c,hc⟩:=Int.eq_ofNat_of_zero_le (show 0≤l by omega)
 obtain⟨x,hx⟩:=Int.eq_ofNat_of_zero_le (show 0≤(if 0≤n then n else 0) by split <;> omega)
 have hx1:(x:Int)≤4611686018427387904:=by split at hx <;> omega
 have hwh:=whole_nat 1 x c (x*1) (by omega) (by omega) (Nat.mul_comm 1 x) (by omega) (by omega) (by omega)
 rw[ceil_nat (x:Int) n l (by omega) hx.symm x c rfl hc.symm,← hc,show((1:Nat):Int)=1 from rfl] at hwh
 generalize ceilD n l=R at *
 generalize (x:Int)=X at *
 clear hc hx1 c
 have HW:=Go.Lib.hid hwh
 clear hwh
 by_cases h0:0≤n
 ·rw[if_pos h0] at hx
  subst hx
  go_enter Tryz.func153,Tryz.ntmps153
  go_wp2_with fail
  refine(HW.out _).mono ?_
  rintro e w1 ⟨rfl,hb⟩
  go_wp2
  go_ret
  exact⟨rfl,bl_then k1 hb⟩
 ·rw[if_neg h0] at hx
  subst hx
  go_enter Tryz.func153,Tryz.ntmps153
  go_wp2_with fail
  refine(HW.out _).mono ?_
  rintro e w1 ⟨rfl,hb⟩
  go_wp2
  go_ret
  exact⟨rfl,bl_then k1 hb⟩

theorem gpaid_any (p:Pol) (debt d0 least:Int) (w:World) (hl:1≤p.limit) (hL:p.limit≤1048576) (hd:0≤d0) (hD:d0≤9007199254740992) (h1:0≤least) (h2:least≤debt) (h3:debt≤1152921504606846976) :
  Calls Tryz.prog 152 #[p.v,.int .i64 debt,.int .i64 d0,.int .i64 least] w fun e w'=>e=.returned (.int .i64 (up (debt - d0*p.limit) least))∧Below w.heap.size w w':=by
 obtain⟨k,l,d,b,cc,o⟩:=p
 unfold Pol.v
 dsimp only at *
 have hmu:=mul_any d0 l hd (by omega) (by omega) (by omega)
 have hM0:0≤d0*l:=Int.mul_nonneg hd (by omega)
 unfold mulN mulOk at hmu
 unfold up
 generalize d0*l=M at *
 have hw1:IntKind.i64.wrap (debt - least)=debt - least:=IntWalk.i64_in _ (by omega)
 by_cases hM:M≤9223372036854775807
 ·simp only[decide_eq_true hM,if_true] at hmu
  have HM:=Go.Lib.hid hmu
  clear hmu
  have hw2:IntKind.i64.wrap (debt - M)=debt - M:=IntWalk.i64_in _ (by omega)
  by_cases h:M<debt - least
  ·rw[if_neg (by omega)]
   have h5:decide (M<debt - least)=true:=decide_eq_true h
   go_enter Tryz.func152,Tryz.ntmps152
   go_wp2_with fail
   refine(HM.out _).mono ?_
   rintro e w1 ⟨rfl,rfl⟩
   go_wp2_with fail
   go_ret
   exact⟨rfl,k1⟩
  ·rw[show(if debt - M<least then least else debt - M)=least by split <;> omega]
   have h5:decide (M<debt - least)=false:=decide_eq_false h
   go_enter Tryz.func152,Tryz.ntmps152
   go_wp2_with fail
   refine(HM.out _).mono ?_
   rintro e w1 ⟨rfl,rfl⟩
   go_wp2_with fail
   go_ret
   exact⟨rfl,k1⟩
 ·simp only[decide_eq_false hM] at hmu
  rw[if_pos (by omega)]
  have HM:=Go.Lib.hid hmu
  clear hmu
  go_enter Tryz.func152,Tryz.ntmps152
  go_wp2_with fail
  refine(HM.out _).mono ?_
  rintro e w1 ⟨rfl,rfl⟩
  go_wp2_with fail
  go_ret
  exact⟨rfl,k1⟩
theorem advG_level (p:Pol) (s:St) (now:Int) (h:rightG p s):p.burst*p.period≤1152921504606846976∧0≤s.held*p.period∧s.held*p.period≤(advG p s now).level∧(advG p s now).level≤p.burst*p.period:=by
 unfold advG
 rw[if_pos h]
 obtain⟨⟨q0,q1,q2,q3,q4,q5,q6,q7⟩,r1,r2,r3,r4,r5,r6,r7⟩:=h
 have hM:p.burst*p.period≤1152921504606846976:=prod_le (by omega) (by omega) (by omega)
 have hH:0≤s.held*p.period:=Int.mul_nonneg (by omega) (by omega)
 have hcr:=clampT_range now
 have hT:s.at_≤up s.at_ (clampT now):=by unfold up;split <;> omega
 have hDD0:0≤(up s.at_ (clampT now) - s.at_)*p.limit:=Int.mul_nonneg (by omega) (by omega)
 dsimp only
 generalize (up s.at_ (clampT now) - s.at_)*p.limit=M at *
 unfold up
 split <;> omega
theorem advG_held (p:Pol) (s:St) (now:Int) (h:rightG p s):(advG p s now).held=s.held:=by unfold advG;rw[if_pos h]

theorem gadv_any (p:Pol) (s:St) (a:Option Addr) (n c:Nat) (now:Int) (hn:s.log.length=n) (w:World):Calls Tryz.prog 98 #[p.v,s.v a n c,.int .i64 now] w fun e w'=>e=.returned ((advG p s now).v none 0 0)∧Below w.heap.size w w':=by
 have hrt:=gright_any p s a n c hn
 unfold advG
 by_cases h:rightG p s
 ·rw[if_pos h]
  rw[decide_eq_true h] at hrt
  obtain⟨hok,r1,r2,r3,r4,r5,r6,r7⟩:=h
  rw[r7] at hn
  subst hn
  have hdr:=fun debt d0 least w h1 h2 h3 h4 h5=>gpaid_any p debt d0 least w hok.2.2.1 hok.2.2.2.1 h1 h2 h3 h4 h5
  obtain⟨k,l,d,b,cc,o⟩:=p
  obtain⟨at_,level,held,lg⟩:=s
  unfold St.v Pol.v at *
  dsimp only[List.length_nil] at *
  have hcl:=clamp_any now
  have hcr:=clampT_range now
  obtain⟨q0,q1,q2,q3,q4,q5,q6,q7⟩:=hok
  dsimp only at *
  have hM:b*d≤1152921504606846976:=prod_le (by omega) (by omega) (by omega)
  have hH:0≤held*d:=Int.mul_nonneg (by omega) (by omega)
  generalize hMM:held*d=M at *
  have hw2:IntKind.i64.wrap M=M:=IntWalk.i64_in _ (by omega)
  generalize hCC:clampT now=C at *
  have hT1:(if at_<C then C else at_)=up at_ C:=rfl
  have hTr:at_≤up at_ C∧up at_ C≤9007199254740992:=by unfold up;split <;> omega
  generalize hTT:up at_ C=T at *
  have hw3:IntKind.i64.wrap (T - at_)=T - at_:=IntWalk.i64_in _ (by omega)
  have hdr':=fun w=>hdr level (T - at_) M w (by omega) (by omega) (by omega) (by omega) (by omega)
  generalize up (level - (T - at_)*l) M=D at *
  have HRT:=Go.Lib.hid hrt
  have HCL:=Go.Lib.hid hcl
  have HDR:=Go.Lib.hid hdr'
  have hmx:(if at_<C then C else at_)=T:=hT1
  clear hrt hcl hdr' hdr hT1 hTr hM hH q0 q1 q2 q3 q4 q5 q6 q7 r1 r2 r3 r4 r5 r6 hcr hCC hTT
  go_enter Tryz.func98,Tryz.ntmps98
  go_wp2_with fail
  refine(HRT.out _).mono ?_
  rintro e w1 ⟨rfl,hb⟩
  have hB:Below w.heap.size w w1:=bl_then k3 hb
  obtain⟨c0,c1,c2,c3,c4,c5⟩:=b6 (w.heap.size) k l d b cc o hb
  have c6:=bl_cell (v:=.int .i64 at_) hb (show World.cell? _ ⟨w.heap.size+1,0,none⟩=_ by go_simp)
  have c7:=bl_cell (v:=.int .i64 level) hb (show World.cell? _ ⟨w.heap.size+1,1,none⟩=_ by go_simp)
  have c8:=bl_cell (v:=.int .i64 held) hb (show World.cell? _ ⟨w.heap.size+1,2,none⟩=_ by go_simp)
  have c9:=bl_cell (v:=.slice a 0 c) hb (show World.cell? _ ⟨w.heap.size+1,3,none⟩=_ by go_simp)
  have hR:ResB w1 (w.heap.size+1+1):=res_bl (res_new _ _ _ _ _ _ (by simp)) hb
  have hQ:ResB w1 (w.heap.size+1):=res_bl (res_bl (res_new (w.alloc _) _ _ _ _ _ (by simp)) k1) hb
  clear hb HRT
  go_wp2_with fail
  refine wp_region_held_drew (S:=fun w'=>P6 w' (w.heap.size) k l d b cc o (S4 w' (w.heap.size+1) at_ level held a 0 c (ResB w' (w.heap.size+1)∧ResB w' (w.heap.size+1+1)∧Below w.heap.size w w'))) (by kernel_rfl) ?_ (fun hHeld=>?_)
  ·exact⟨c0,c1,c2,c3,c4,c5,c6,c7,c8,c9,hQ,hR,bl_drew hB⟩
  try simp only[Act.put,List.setIfInBounds_toArray,List.set_cons_zero,List.set_cons_succ]
  all_goals refine tkx 0 ?_
  all_goals refine tkx 1 ?_
  all_goals refine tkx 2 ?_
  all_goals((refine callH (i:=3) rfl hHeld (fun W hW K hK=>?_);clear hHeld;(try dsimp only at hW);go_simp;refine(HCL.out _).mono ?_;rintro e w1 ⟨rfl,rfl⟩;go_wp2_with fail;refine hK.out _ _ ?_ (fun hHeld=>?_);(focus((try dsimp only);exact hW));clear hK K;try simp only[Act.put,List.setIfInBounds_toArray,List.set_cons_zero,List.set_cons_succ]))
  all_goals refine tkx 4 ?_
  all_goals refine tkx 5 ?_
  all_goals(refine wpAnyH_done (by kernel_rfl) ?_ _)
  clear hB hQ hR c0 c1 c2 c3 c4 c5 c6 c7 c8 c9
  refine then_abs (F:=fun w'=>P6 w' (w.heap.size) k l d b cc o (S4 w' (w.heap.size+1) at_ level held a 0 c (ResB w' (w.heap.size+1)∧ResB w' (w.heap.size+1+1)∧Below w.heap.size w w'))) hHeld ?_
  clear hHeld
  rintro W ⟨c0,c1,c2,c3,c4,c5,c6,c7,c8,c9,hQ,hR,hB⟩
  go_wp2_with fail
  refine(HDR.out _).mono ?_
  rintro e w2 ⟨rfl,hb⟩
  have d0:=bl_cell hb c0
  have d1:=bl_cell hb c1
  have d2:=bl_cell hb c2
  have d3:=bl_cell hb c3
  have d4:=bl_cell hb c4
  have d5:=bl_cell hb c5
  have d6:=bl_cell hb c6
  have d7:=bl_cell hb c7
  have d8:=bl_cell hb c8
  have d9:=bl_cell hb c9
  have dR:=res_bl hR hb
  have dQ:=res_bl hQ hb
  have dB:=bl_then hB hb
  clear hR hQ hB hb HDR HCL c0 c1 c2 c3 c4 c5 c6 c7 c8 c9
  obtain⟨f0,f1,f2,f3,u0,u1,u2,u3,i0,i1,i2,i3⟩:=res_all dR
  have fz:=(dQ 1 (by omega)).1
  go_wp2_with fail
  have ne:w.heap.size+1≠w.heap.size+1+1:=by omega
  (try simp only[Exit.inBlock,Exit.then])
  refine bodyPost_ret (results_state rfl _ _ (by rfl) (set4 _ _ _ _ (far_set i0 _ _ ne) (far_set i1 _ _ ne) (far_set i2 _ _ ne) (far_set i3 _ _ ne))) rfl ⟨rfl,bl4 (bl_set dB (by dsimp only;omega) _) (by omega)⟩
 ·rw[if_neg h]
  rw[decide_eq_false h] at hrt
  clear h
  unfold St.none St.v Pol.v at *
  have HRT:=Go.Lib.hid hrt
  clear hrt
  go_enter Tryz.func98,Tryz.ntmps98
  go_wp2_with fail
  refine(HRT.out _).mono ?_
  rintro e w1 ⟨rfl,hb⟩
  have hB:Below w.heap.size w w1:=bl_then k3 hb
  have hR:ResB w1 (w.heap.size+1+1):=res_bl (res_new _ _ _ _ _ _ (by simp)) hb
  obtain⟨f0,f1,f2,f3,u0,u1,u2,u3,i0,i1,i2,i3⟩:=res_all hR
  clear hb HRT
  go_wp2
  (try simp only[Exit.inBlock,Exit.then])
  refine bodyPost_ret (results_state rfl _ _ (by rfl) (set4 _ _ _ _ i0 i1 i2 i3)) rfl ⟨by first|rfl|simp,bl4 hB (by omega)⟩
def chkC (p:Pol):Int:=if okC p then 0 else 2
theorem chkC_ok {p:Pol} (h:okC p):0=chkC p:=by unfold chkC;rw[if_pos h]
theorem chkC_no {p:Pol} (h:¬ okC p):2=chkC p:=by unfold chkC;rw[if_neg h]

theorem ccheck_any (p:Pol) (w:World):Calls Tryz.prog 111 #[p.v] w fun e w'=>e=.returned (.int .i64 (chkC p))∧Below w.heap.size w w':=by
 obtain⟨k,l,d,b,c,o⟩:=p
 generalize hX:chkC ⟨k,l,d,b,c,o⟩=C at *
 have HX:=Go.Lib.hid hX
 clear hX
 unfold Pol.v
 go_enter Tryz.func111,Tryz.ntmps111
 go_wp2
 all_goals
  go_ret
  have hX:=HX.out
  refine⟨congrArg (fun x=>Ending.returned (.int .i64 x)) ?_,k1⟩
  rw[← hX]
  try simp only[bne_iff_ne,ne_eq,bne_eq_false_iff_eq] at *
  first
   | (refine chkC_ok ?_;unfold okC;dsimp only;omega)
   | (refine chkC_no ?_;unfold okC;dsimp only;intro hh;obtain⟨q0,q1,q2,q3,q4,q5,q6⟩:=hh;omega)
theorem cright_walk (k l d b cc:Int) (o:Bool) (at_ level held:Int) (a:Option Addr) (n c:Nat) (w:World) (r:Bool)
  (hr:r=true↔(okC ⟨k,l,d,b,cc,o⟩∧0≤at_∧at_≤9007199254740992∧0≤held∧0≤level∧held≤l∧level≤l∧held+level≤l∧n=0)) :
  Calls Tryz.prog 113 #[.agg #[.int .i64 k,.int .i64 l,.int .i64 d,.int .i64 b,.int .i64 cc,.bool o],.agg #[.int .i64 at_,.int .i64 level,.int .i64 held,.slice a n c]] w fun e w'=>e=.returned (.bool r)∧Below w.heap.size w w':=by
 have HR:=Go.Lib.hid hr
 clear hr
 have hck:=ccheck_any ⟨k,l,d,b,cc,o⟩
 unfold Pol.v at hck
 dsimp only at hck
 have hC:(chkC ⟨k,l,d,b,cc,o⟩=0∧okC ⟨k,l,d,b,cc,o⟩)∨(chkC ⟨k,l,d,b,cc,o⟩=2∧¬ okC ⟨k,l,d,b,cc,o⟩):=by
  by_cases h:okC ⟨k,l,d,b,cc,o⟩
  ·exact .inl ⟨(chkC_ok h).symm,h⟩
  ·exact .inr ⟨(chkC_no h).symm,h⟩
 generalize chkC ⟨k,l,d,b,cc,o⟩=C at *
 have HC:=Go.Lib.hid hC
 have HCK:=Go.Lib.hid hck
 obtain⟨mn,hmn⟩:∃ m,(if level<held then level else held)=m:=⟨_,rfl⟩
 obtain⟨mx,hmx⟩:∃ m,(if held<level then level else held)=m:=⟨_,rfl⟩
 have HMN:=Go.Lib.hid (show 0≤mn↔0≤held∧0≤level by rw[← hmn];split <;> omega)
 have HMX:=Go.Lib.hid (show mx≤l↔held≤l∧level≤l by rw[← hmx];split <;> omega)
 have HW:=Go.Lib.hid (show okC ⟨k,l,d,b,cc,o⟩→0≤mn→mx≤l→IntKind.i64.wrap (held+level)=held+level from fun hok h0 h1=>by
  obtain⟨q0,q1,q2,q3,q4,q5,q6⟩:=hok
  dsimp only at *
  have h2:=HMN.out.1 h0
  have h3:=HMX.out.1 h1
  exact IntWalk.i64_in _ (by omega))
 have hcl:=clamp_any at_
 have hT:(clampT at_ == at_)=true↔0≤at_∧at_≤9007199254740992:=by
  have:=clampT_range at_
  rw[beq_iff_eq]
  constructor
  ·intro h;omega
  ·intro h;exact clampT_id h.1 h.2
 generalize clampT at_=T at *
 obtain⟨g1,hg1⟩:∃ g,(T == at_)=g:=⟨_,rfl⟩
 have hg1':decide (T=at_)=g1:=hg1
 obtain⟨g2,hg2⟩:∃ g,decide (0≤mn)=g:=⟨_,rfl⟩
 obtain⟨g3,hg3⟩:∃ g,decide (mx≤l)=g:=⟨_,rfl⟩
 obtain⟨g5,hg5⟩:∃ g,decide (held+level≤l)=g:=⟨_,rfl⟩
 obtain⟨g6,hg6⟩:∃ g,((n:Int) == 0)=g:=⟨_,rfl⟩
 rw[hg1] at hT
 have HT:=Go.Lib.hid hT
 have HCL:=Go.Lib.hid hcl
 clear hck hC hcl hT
 go_enter Tryz.func113,Tryz.ntmps113
 go_wp2_with fail
 refine wp_abs (S0:=fun w'=>P6 w' (w.heap.size) k l d b cc o (S4 w' (w.heap.size+1) at_ level held a n c (Below w.heap.size w w'))) ⟨by go_simp,by go_simp,by go_simp,by go_simp,by go_simp,by go_simp,by go_simp,by go_simp,by go_simp,by go_simp,k2⟩ ?_
 rintro W ⟨c0,c1,c2,c3,c4,c5,c6,c7,c8,c9,hB⟩
 refine wp_region_held_drew (S:=fun w'=>P6 w' (w.heap.size) k l d b cc o (S4 w' (w.heap.size+1) at_ level held a n c (Below w.heap.size w w'))) (by kernel_rfl) ?_ (fun hHeld=>?_)
 ·exact⟨c0,c1,c2,c3,c4,c5,c6,c7,c8,c9,bl_drew hB⟩
 try simp only[Act.put,List.setIfInBounds_toArray,List.set_cons_zero,List.set_cons_succ]
 all_goals refine tkx 0 ?_
 all_goals((refine callH (i:=1) rfl hHeld (fun W hW K hK=>?_);clear hHeld;(try dsimp only at hW);go_simp;refine(HCK.out _).mono ?_;rintro e w1 ⟨rfl,hb⟩;go_wp2_with fail;refine hK.out _ _ ?_ (fun hHeld=>?_);(focus((try dsimp only);(obtain⟨h0,h1,h2,h3,h4,h5,h6,h7,h8,h9,hB'⟩:=hW;exact⟨bl_cell hb h0,bl_cell hb h1,bl_cell hb h2,bl_cell hb h3,bl_cell hb h4,bl_cell hb h5,bl_cell hb h6,bl_cell hb h7,bl_cell hb h8,bl_cell hb h9,bl_then hB' hb⟩)));clear hK K;try simp only[Act.put,List.setIfInBounds_toArray,List.set_cons_zero,List.set_cons_succ]))
 rcases HC.out with⟨rfl,hok⟩|⟨rfl,hok⟩
 all_goals refine tkx 2 ?_
 all_goals refine tkx 3 ?_
 all_goals(first|(refine tqx 4 ?_)|(refine tkx 4 ?_))
 all_goals(first|(refine tqx 5 ?_)|(refine tkx 5 ?_))
 all_goals(first|(refine tqx 7 ?_)|(refine tkx 7 ?_))
 all_goals(first|(refine tqx 8 ?_)|(refine tkx 8 ?_))
 all_goals(first|(refine tqx 6 ?_)|(refine callH (i:=6) rfl hHeld (fun W hW K hK=>?_);clear hHeld;(try dsimp only at hW);go_simp;refine(HCL.out _).mono ?_;rintro e w1 ⟨rfl,rfl⟩;go_wp2_with fail;refine hK.out _ _ ?_ (fun hHeld=>?_);(focus((try dsimp only);exact hW));clear hK K;try simp only[Act.put,List.setIfInBounds_toArray,List.set_cons_zero,List.set_cons_succ]))
 all_goals(first|(refine tqx 9 ?_)|(refine tkx 9 ?_))
 all_goals refine tkx 10 ?_
 all_goals(first|((fail_if_success (clear hg1 hg1' HT g1));cases g1)|skip)
 all_goals refine tkx 11 ?_
 all_goals(first|(refine tqx 12 ?_)|(refine tkx 12 ?_))
 all_goals(first|(refine tqx 13 ?_)|(refine tkx 13 ?_))
 all_goals(first|(refine tqx 14 ?_)|(refine tkx 14 ?_))
 all_goals(first|(refine tqx 15 ?_)|(refine tkx 15 ?_))
 all_goals(first|(refine tqx 16 ?_)|(refine tkx 16 ?_))
 all_goals(first|(refine tqx 17 ?_)|(refine tkx 17 ?_))
 all_goals refine tkx 18 ?_
 all_goals(first|((fail_if_success (clear hg2 g2));cases g2)|skip)
 all_goals refine tkx 19 ?_
 all_goals(first|(refine tqx 20 ?_)|(refine tkx 20 ?_))
 all_goals(first|(refine tqx 21 ?_)|(refine tkx 21 ?_))
 all_goals(first|(refine tqx 22 ?_)|(refine tkx 22 ?_))
 all_goals(first|(refine tqx 23 ?_)|(refine tkx 23 ?_))
 all_goals(first|(refine tqx 24 ?_)|(refine tkx 24 ?_))
 all_goals(first|(refine tqx 25 ?_)|(refine tkx 25 ?_))
 all_goals(first|(refine tqx 26 ?_)|(refine tkx 26 ?_))
 all_goals(first|(refine tqx 27 ?_)|(refine tkx 27 ?_))
 all_goals refine tkx 28 ?_
 all_goals(first|((fail_if_success (clear hg3 g3));cases g3)|skip)
 all_goals refine tkx 29 ?_
 all_goals(try(have hw1:=HW.out hok (by simpa using hg2) (by simpa using hg3)))
 all_goals(first|(refine tqx 30 ?_)|(refine tkx 30 ?_))
 all_goals(first|(refine tqx 31 ?_)|(refine tkx 31 ?_))
 all_goals(first|(refine tqx 32 ?_)|(refine tkx 32 ?_))
 all_goals(first|(refine tqx 33 ?_)|(refine tkx 33 ?_))
 all_goals(first|(refine tqx 34 ?_)|(refine tkx 34 ?_))
 all_goals(first|(refine tqx 35 ?_)|(refine tkx 35 ?_))
 all_goals(first|(refine tqx 36 ?_)|(refine tkx 36 ?_))
 all_goals(first|(refine tqx 37 ?_)|(refine tkx 37 ?_))
 all_goals refine tkx 38 ?_
 all_goals(first|((fail_if_success (clear hg5 g5));cases g5)|skip)
 all_goals refine tkx 39 ?_
 all_goals(first|(refine tqx 40 ?_)|(refine tkx 40 ?_))
 all_goals(first|(refine tqx 41 ?_)|(refine tkx 41 ?_))
 all_goals(first|(refine tqx 42 ?_)|(refine tkx 42 ?_))
 all_goals(first|(refine tqx 43 ?_)|(refine tkx 43 ?_))
 all_goals refine tkx 44 ?_
 all_goals refine tkx 45 ?_
 all_goals(refine wpAnyH_done (by kernel_rfl) ?_ _)
 all_goals(obtain⟨h0,h1,h2,h3,h4,h5,h6,h7,h8,h9,hE⟩:=hHeld;go_wp2_with fail;go_ret)
 all_goals
  refine⟨congrArg (fun x=>Ending.returned (.bool x)) ?_,hE⟩
  have h1:=HR.out
  have h2:=HT.out
  have h3:=HMN.out
  have h4:=HMX.out
  clear hmn hmx HW
  rw[Bool.eq_iff_iff,h1]
  simp only[Bool.false_eq_true,reduceCtorEq,false_iff,iff_true,true_iff,iff_false,decide_eq_true_eq,decide_eq_false_iff_not,beq_iff_eq,beq_eq_false_iff_ne] at *
  first
   | (intro hh;obtain⟨hh0,hh⟩:=hh;first|exact hok hh0|omega)
   | (subst hg6;rw[beq_iff_eq];constructor <;> intro hh <;> (try refine⟨hok,?_⟩) <;> omega)
theorem cright_any (p:Pol) (s:St) (a:Option Addr) (n c:Nat) (hn:s.log.length=n) (w:World) :
  Calls Tryz.prog 113 #[p.v,s.v a n c] w fun e w'=>e=.returned (.bool (decide (rightC p s)))∧Below w.heap.size w w':=by
 refine cright_walk p.kind p.limit p.period p.burst p.cap p.opn s.at_ s.level s.held a n c w _ ?_
 rw[decide_eq_true_eq]
 unfold rightC
 rw[← hn]
 simp only[List.length_eq_zero_iff]
theorem advC_level (p:Pol) (s:St) (now:Int) (h:rightC p s):0≤(advC p s now).level∧(advC p s now).level≤s.level∧(advC p s now).held=s.held∧0≤(advC p s now).at_∧(advC p s now).at_≤9007199254740992:=by
 unfold advC
 rw[if_pos h]
 obtain⟨hok,r1,r2,r3,r4,r5,r6,r7,r8⟩:=h
 have hcr:=clampT_range now
 dsimp only
 refine⟨?_,?_,rfl,?_,?_⟩
 ·split <;> omega
 ·split <;> omega
 ·unfold up;split <;> omega
 ·unfold up;split <;> omega

theorem cadv_any (p:Pol) (s:St) (a:Option Addr) (n c:Nat) (now:Int) (hn:s.log.length=n) (w:World):Calls Tryz.prog 114 #[p.v,s.v a n c,.int .i64 now] w fun e w'=>e=.returned ((advC p s now).v none 0 0)∧Below w.heap.size w w':=by
 have hrt:=cright_any p s a n c hn
 unfold advC
 by_cases h:rightC p s
 ·rw [if_pos h]
  rw[decide_eq_true h] at hrt
  obtain⟨hok,r1,r2,r3,r4,r5,r6,r7,r8⟩:=h
  rw[r8] at hn
  subst hn
  obtain⟨k,l,d,b,cc,o⟩:=p
  obtain⟨at_,level,held,lg⟩:=s
  unfold St.v Pol.v at *
  dsimp only[List.length_nil] at *
  have hcl:=clamp_any now
  have hcr:=clampT_range now
  obtain⟨q0,q1,q2,q3,q4,q5,q6⟩:=hok
  dsimp only at *
  generalize hCC:clampT now=C at *
  have hmx:(if at_<C then C else at_)=up at_ C:=rfl
  have hTr:at_≤up at_ C∧up at_ C≤9007199254740992:=by unfold up;split <;> omega
  generalize hTT:up at_ C=T at *
  have hd0:¬ d=0:=by omega
  have t1:Int.tdiv T d=T / d:=Int.tdiv_eq_ediv_of_nonneg (by omega)
  have t2:Int.tdiv at_ d=at_ / d:=Int.tdiv_eq_ediv_of_nonneg (by omega)
  have t3:T / d≤T:=Int.ediv_le_self _ (by omega)
  have t4:at_ / d≤at_:=Int.ediv_le_self _ (by omega)
  have t5:0≤T / d:=Int.ediv_nonneg (by omega) (by omega)
  have t6:0≤at_ / d:=Int.ediv_nonneg (by omega) (by omega)
  have t7:IntKind.i64.wrap (T / d)=T / d:=IntWalk.i64_in _ (by omega)
  have t8:IntKind.i64.wrap (at_ / d)=at_ / d:=IntWalk.i64_in _ (by omega)
  generalize T / d=D1 at *
  generalize at_ / d=D2 at *
  obtain⟨g,hg⟩:∃ g,decide (D1=D2)=g:=⟨_,rfl⟩
  have hg':(D1 == D2)=g:=hg
  have hif:(if D1=D2 then level else 0)=if g then level else 0:=by rw[← hg];by_cases e:D1=D2 <;> simp[e]
  rw[hif]
  have HRT:=Go.Lib.hid hrt
  have HCL:=Go.Lib.hid hcl
  clear hrt hcl hTr hif t3 t4 t5 t6 q0 q1 q2 q3 q4 q5 q6 r1 r2 r3 r4 r5 r6 r7 hcr hCC hTT
  go_enter Tryz.func114,Tryz.ntmps114
  go_wp2_with fail
  refine(HRT.out _).mono ?_
  rintro e w1 ⟨rfl,hb⟩
  have hB:Below w.heap.size w w1:=bl_then k3 hb
  obtain⟨c0,c1,c2,c3,c4,c5⟩:=b6 (w.heap.size) k l d b cc o hb
  have c6:=bl_cell (v:=.int .i64 at_) hb (show World.cell? _ ⟨w.heap.size+1,0,none⟩=_ by go_simp)
  have c7:=bl_cell (v:=.int .i64 level) hb (show World.cell? _ ⟨w.heap.size+1,1,none⟩=_ by go_simp)
  have c8:=bl_cell (v:=.int .i64 held) hb (show World.cell? _ ⟨w.heap.size+1,2,none⟩=_ by go_simp)
  have c9:=bl_cell (v:=.slice a 0 c) hb (show World.cell? _ ⟨w.heap.size+1,3,none⟩=_ by go_simp)
  have hR:ResB w1 (w.heap.size+1+1):=res_bl (res_new _ _ _ _ _ _ (by simp)) hb
  clear hb HRT
  go_wp2_with fail
  refine wp_region_held_drew (S:=fun w'=>P6 w' (w.heap.size) k l d b cc o (S4 w' (w.heap.size+1) at_ level held a 0 c (ResB w' (w.heap.size+1+1)∧Below w.heap.size w w'))) (by kernel_rfl) ?_ (fun hHeld=>?_)
  ·exact⟨c0,c1,c2,c3,c4,c5,c6,c7,c8,c9,hR,bl_drew hB⟩
  try simp only[Act.put,List.setIfInBounds_toArray,List.set_cons_zero,List.set_cons_succ]
  refine wpAnyH_abs (F:=fun _=>True) hHeld trivial (fun W3 hHeld _=>?_)
  clear hR hB c0 c1 c2 c3 c4 c5 c6 c7 c8 c9
  refine tkx 0 ?_
  refine tkx 1 ?_
  refine tkx 2 ?_
  refine tkx 5 ?_
  refine tkx 6 ?_
  refine callC2 (i:=3) (j:=8) rfl rfl (fun K hK=>?_) (fun K hK=>?_)
  ·go_simp
   refine(HCL.out _).mono ?_
   rintro e w9 ⟨rfl,rfl⟩
   go_wp2_with fail
   refine hK.out _ _ ?_ (fun hHeld'=>?_)
   ·(try dsimp only)
    exact hHeld
   clear hHeld hK K
   rename _=>hHeld
   try simp only[Act.put,List.setIfInBounds_toArray,List.set_cons_zero,List.set_cons_succ]
   refine tkx 4 ?_
   refine tkx 7 ?_
   refine callC (i:=8) rfl (fun K hK=>?_)
   have hlt:w.heap.size+1+1<W3.heap.size:=by(obtain⟨h0,h1,h2,h3,h4,h5,h6,h7,h8,h9,hr',hB'⟩:=hHeld;exact res_lt hr')
   go_simp
   refine hK.out _ _ ?_ (fun hHeld'=>?_)
   ·(try dsimp only)
    (obtain⟨h0,h1,h2,h3,h4,h5,h6,h7,h8,h9,hr',hB'⟩:=hHeld;exact⟨bl_cell k1 h0,bl_cell k1 h1,bl_cell k1 h2,bl_cell k1 h3,bl_cell k1 h4,bl_cell k1 h5,bl_cell k1 h6,bl_cell k1 h7,bl_cell k1 h8,bl_cell k1 h9,res_bl hr' k1,bl_alloc hB' _⟩)
   clear hHeld hK K
   rename _=>hHeld
   try simp only[Act.put,List.setIfInBounds_toArray,List.set_cons_zero,List.set_cons_succ]
   refine wpAnyH_abs (F:=fun X=>ResB X W3.heap.size) hHeld (res_new _ _ _ _ _ _ rfl) (fun w6 hHeld hN=>?_)
   generalize W3.heap.size=nb at *
   refine callC (i:=9) rfl (fun K hK=>?_)
   obtain⟨h0,h1,h2,h3,h4,h5,h6,h7,h8,h9,hr',hB'⟩:=hHeld
   obtain⟨f0,f1,f2,f3,u0,u1,u2,u3,i0,i1,i2,i3⟩:=res_all hN
   clear hHeld
   have hHeld:True:=trivial
   go_simp
   refine hK.out _ _ ?_ (fun hHeld'=>?_)
   ·(try dsimp only)
    (have e0:nb≠w.heap.size:=(by omega);have e1:nb≠w.heap.size+1:=(by omega);exact⟨far4 h0 e0,far4 h1 e0,far4 h2 e0,far4 h3 e0,far4 h4 e0,far4 h5 e0,far4 h6 e1,far4 h7 e1,far4 h8 e1,far4 h9 e1,res4 hr',bl4 hB' (by omega)⟩)
   clear hHeld hK K
   rename _=>hHeld
   try simp only[Act.put,List.setIfInBounds_toArray,List.set_cons_zero,List.set_cons_succ]
   refine wpAnyH_done (by kernel_rfl) ?_ _
   clear hr' hB'
   obtain⟨k0,k1,k2,k3,k4,k5,k6,k7,k8,k9,hr'',hE⟩:=hHeld
   refine then_abs (F:=fun X=>(X3 X nb T 0 held (X.cell? ⟨nb,3,none⟩=some (.slice none 0 0)))∧P6 X (w.heap.size) k l d b cc o (S4 X (w.heap.size+1) at_ level held a 0 c (ResB X nb∧ResB X (w.heap.size+1+1)∧Below w.heap.size w X))) ⟨set4 _ _ _ _ i0 i1 i2 i3,k0,k1,k2,k3,k4,k5,k6,k7,k8,k9,res4 hN,hr'',hE⟩ ?_
   clear hN hr'' hE i0 i1 i2 i3 f0 f1 f2 f3 u0 u1 u2 u3 HCL k0 k1 k2 k3 k4 k5 k6 k7 k8 k9 h0 h1 h2 h3 h4 h5 h6 h7 h8 h9
   rintro X ⟨⟨x0,x1,x2,x3⟩,c0,c1,c2,c3,c4,c5,c6,c7,c8,c9,hN,hR,hE⟩
   repeat' (first|go_skip|go_guarded|go_step|go_upon)
   refine wp_region_held_drew (S:=fun X=>(X3 X nb T 0 held (X.cell? ⟨nb,3,none⟩=some (.slice none 0 0)))∧P6 X (w.heap.size) k l d b cc o (S4 X (w.heap.size+1) at_ level held a 0 c (ResB X nb∧ResB X (w.heap.size+1+1)∧Below w.heap.size w X))) (by kernel_rfl) ?_ (fun hHeld=>?_)
   ·exact⟨⟨x0,x1,x2,x3⟩,c0,c1,c2,c3,c4,c5,c6,c7,c8,c9,hN,hR,bl_drew hE⟩
   try simp only[Act.put,List.setIfInBounds_toArray,List.set_cons_zero,List.set_cons_succ]
   refine tkx 0 ?_
   refine tkx 1 ?_
   refine tkx 2 ?_
   refine tkx 3 ?_
   refine tkx 4 ?_
   refine tkx 5 ?_
   refine tkx 6 ?_
   refine tkx 7 ?_
   refine tkx 8 ?_
   refine tkx 9 ?_
   refine tkx 10 ?_
   refine wpAnyH_done (by kernel_rfl) ?_ _
   refine then_abs (F:=fun X=>(X3 X nb T 0 held (X.cell? ⟨nb,3,none⟩=some (.slice none 0 0)))∧P6 X (w.heap.size) k l d b cc o (S4 X (w.heap.size+1) at_ level held a 0 c (ResB X nb∧ResB X (w.heap.size+1+1)∧Below w.heap.size w X))) hHeld ?_
   clear hHeld x0 x1 x2 x3 hN hR hE c0 c1 c2 c3 c4 c5 c6 c7 c8 c9
   rintro X ⟨⟨x0,x1,x2,x3⟩,c0,c1,c2,c3,c4,c5,c6,c7,c8,c9,hN,hR,hE⟩
   obtain⟨F0,F1,F2,F3,U0,U1,U2,U3,I0,I1,I2,I3⟩:=res_all hR
   have hz1:=(hN 1 (by omega)).1
   have n0:¬ nb=w.heap.size:=by omega
   have m0:¬ w.heap.size=nb:=by omega
   have n1:¬ nb=w.heap.size+1:=by omega
   have m1:¬ w.heap.size+1=nb:=by omega
   have n2:¬ nb=w.heap.size+1+1:=by omega
   have m2:¬ w.heap.size+1+1=nb:=by omega
   cases g
   ·repeat' (first|go_skip|go_guarded|go_step|go_upon)
    (try simp only[Exit.inBlock,Exit.then])
    refine bodyPost_ret (results_state rfl _ _ (by rfl) (set4r hR)) rfl ⟨by first|rfl|simp,bl4 hE (by omega)⟩
   ·repeat' (first|go_skip|go_guarded|go_step|go_upon)
    (try simp only[Exit.inBlock,Exit.then])
    refine bodyPost_ret (results_state rfl _ _ (by rfl) (set4r (res_set hR _ _))) rfl ⟨by first|rfl|simp,bl4 (bl_set hE (by dsimp only;omega) _) (by omega)⟩
  ·have hlt:w.heap.size+1+1<W3.heap.size:=by(obtain⟨h0,h1,h2,h3,h4,h5,h6,h7,h8,h9,hr',hB'⟩:=hHeld;exact res_lt hr')
   go_simp
   refine hK.out _ _ ?_ (fun hHeld'=>?_)
   ·(try dsimp only)
    (obtain⟨h0,h1,h2,h3,h4,h5,h6,h7,h8,h9,hr',hB'⟩:=hHeld;exact⟨bl_cell k1 h0,bl_cell k1 h1,bl_cell k1 h2,bl_cell k1 h3,bl_cell k1 h4,bl_cell k1 h5,bl_cell k1 h6,bl_cell k1 h7,bl_cell k1 h8,bl_cell k1 h9,res_bl hr' k1,bl_alloc hB' _⟩)
   clear hHeld hK K
   rename _=>hHeld
   try simp only[Act.put,List.setIfInBounds_toArray,List.set_cons_zero,List.set_cons_succ]
   refine wpAnyH_abs (F:=fun X=>ResB X W3.heap.size) hHeld (res_new _ _ _ _ _ _ rfl) (fun w4 hHeld hN=>?_)
   generalize W3.heap.size=nb at *
   refine callC (i:=3) rfl (fun K hK=>?_)
   go_simp
   refine(HCL.out _).mono ?_
   rintro e w9 ⟨rfl,rfl⟩
   go_wp2_with fail
   refine hK.out _ _ ?_ (fun hHeld'=>?_)
   ·(try dsimp only)
    exact hHeld
   clear hHeld hK K
   rename _=>hHeld
   try simp only[Act.put,List.setIfInBounds_toArray,List.set_cons_zero,List.set_cons_succ]
   refine tkx 4 ?_
   refine tkx 7 ?_
   refine callC (i:=9) rfl (fun K hK=>?_)
   obtain⟨h0,h1,h2,h3,h4,h5,h6,h7,h8,h9,hr',hB'⟩:=hHeld
   obtain⟨f0,f1,f2,f3,u0,u1,u2,u3,i0,i1,i2,i3⟩:=res_all hN
   clear hHeld
   have hHeld:True:=trivial
   go_simp
   refine hK.out _ _ ?_ (fun hHeld'=>?_)
   ·(try dsimp only)
    (have e0:nb≠w.heap.size:=(by omega);have e1:nb≠w.heap.size+1:=(by omega);exact⟨far4 h0 e0,far4 h1 e0,far4 h2 e0,far4 h3 e0,far4 h4 e0,far4 h5 e0,far4 h6 e1,far4 h7 e1,far4 h8 e1,far4 h9 e1,res4 hr',bl4 hB' (by omega)⟩)
   clear hHeld hK K
   rename _=>hHeld
   try simp only[Act.put,List.setIfInBounds_toArray,List.set_cons_zero,List.set_cons_succ]
   refine wpAnyH_done (by kernel_rfl) ?_ _
   clear hr' hB'
   obtain⟨k0,k1,k2,k3,k4,k5,k6,k7,k8,k9,hr'',hE⟩:=hHeld
   refine then_abs (F:=fun X=>(X3 X nb T 0 held (X.cell? ⟨nb,3,none⟩=some (.slice none 0 0)))∧P6 X (w.heap.size) k l d b cc o (S4 X (w.heap.size+1) at_ level held a 0 c (ResB X nb∧ResB X (w.heap.size+1+1)∧Below w.heap.size w X))) ⟨set4 _ _ _ _ i0 i1 i2 i3,k0,k1,k2,k3,k4,k5,k6,k7,k8,k9,res4 hN,hr'',hE⟩ ?_
   clear hN hr'' hE i0 i1 i2 i3 f0 f1 f2 f3 u0 u1 u2 u3 HCL k0 k1 k2 k3 k4 k5 k6 k7 k8 k9 h0 h1 h2 h3 h4 h5 h6 h7 h8 h9
   rintro X ⟨⟨x0,x1,x2,x3⟩,c0,c1,c2,c3,c4,c5,c6,c7,c8,c9,hN,hR,hE⟩
   repeat' (first|go_skip|go_guarded|go_step|go_upon)
   refine wp_region_held_drew (S:=fun X=>(X3 X nb T 0 held (X.cell? ⟨nb,3,none⟩=some (.slice none 0 0)))∧P6 X (w.heap.size) k l d b cc o (S4 X (w.heap.size+1) at_ level held a 0 c (ResB X nb∧ResB X (w.heap.size+1+1)∧Below w.heap.size w X))) (by kernel_rfl) ?_ (fun hHeld=>?_)
   ·exact⟨⟨x0,x1,x2,x3⟩,c0,c1,c2,c3,c4,c5,c6,c7,c8,c9,hN,hR,bl_drew hE⟩
   try simp only[Act.put,List.setIfInBounds_toArray,List.set_cons_zero,List.set_cons_succ]
   refine tkx 0 ?_
   refine tkx 1 ?_
   refine tkx 2 ?_
   refine tkx 3 ?_
   refine tkx 4 ?_
   refine tkx 5 ?_
   refine tkx 6 ?_
   refine tkx 7 ?_
   refine tkx 8 ?_
   refine tkx 9 ?_
   refine tkx 10 ?_
   refine wpAnyH_done (by kernel_rfl) ?_ _
   refine then_abs (F:=fun X=>(X3 X nb T 0 held (X.cell? ⟨nb,3,none⟩=some (.slice none 0 0)))∧P6 X (w.heap.size) k l d b cc o (S4 X (w.heap.size+1) at_ level held a 0 c (ResB X nb∧ResB X (w.heap.size+1+1)∧Below w.heap.size w X))) hHeld ?_
   clear hHeld x0 x1 x2 x3 hN hR hE c0 c1 c2 c3 c4 c5 c6 c7 c8 c9
   rintro X ⟨⟨x0,x1,x2,x3⟩,c0,c1,c2,c3,c4,c5,c6,c7,c8,c9,hN,hR,hE⟩
   obtain⟨F0,F1,F2,F3,U0,U1,U2,U3,I0,I1,I2,I3⟩:=res_all hR
   have hz1:=(hN 1 (by omega)).1
   have n0:¬ nb=w.heap.size:=by omega
   have m0:¬ w.heap.size=nb:=by omega
   have n1:¬ nb=w.heap.size+1:=by omega
   have m1:¬ w.heap.size+1=nb:=by omega
   have n2:¬ nb=w.heap.size+1+1:=by omega
   have m2:¬ w.heap.size+1+1=nb:=by omega
   cases g
   ·repeat' (first|go_skip|go_guarded|go_step|go_upon)
    (try simp only[Exit.inBlock,Exit.then])
    refine bodyPost_ret (results_state rfl _ _ (by rfl) (set4r hR)) rfl ⟨by first|rfl|simp,bl4 hE (by omega)⟩
   ·repeat' (first|go_skip|go_guarded|go_step|go_upon)
    (try simp only[Exit.inBlock,Exit.then])
    refine bodyPost_ret (results_state rfl _ _ (by rfl) (set4r (res_set hR _ _))) rfl ⟨by first|rfl|simp,bl4 (bl_set hE (by dsimp only;omega) _) (by omega)⟩
 ·rw[if_neg h]
  rw[decide_eq_false h] at hrt
  clear h
  unfold St.none St.v Pol.v at *
  have HRT:=Go.Lib.hid hrt
  clear hrt
  go_enter Tryz.func114,Tryz.ntmps114
  go_wp2_with fail
  refine(HRT.out _).mono ?_
  rintro e w1 ⟨rfl,hb⟩
  have hB:Below w.heap.size w w1:=bl_then k3 hb
  have hR:ResB w1 (w.heap.size+1+1):=res_bl (res_new _ _ _ _ _ _ (by simp)) hb
  obtain⟨f0,f1,f2,f3,u0,u1,u2,u3,i0,i1,i2,i3⟩:=res_all hR
  clear hb HRT
  go_wp2
  (try simp only[Exit.inBlock,Exit.then])
  refine bodyPost_ret (results_state rfl _ _ (by rfl) (set4 _ _ _ _ i0 i1 i2 i3)) rfl ⟨by first|rfl|simp,bl4 hB (by omega)⟩
/-- Entries in memory. -/
def LogAt (w:World) (a:Option Addr) (n c:Nat) (L:List (Int × Int)):Prop :=
 L.length=n∧n≤c∧c≤9223372036854775807∧∀ i,i<n→∃ b off,a=some ⟨b,off,none⟩∧w.cell? ⟨b,off+i*2,none⟩=some (.int .i64 (L.getD i (0,0)).1)∧w.cell? ⟨b,off+i*2+1,none⟩=some (.int .i64 (L.getD i (0,0)).2)
theorem log_bl {w w':World} {a:Option Addr} {n c:Nat} {L:List (Int × Int)} (h:LogAt w a n c L) (hb:Below w.heap.size w w'):LogAt w' a n c L :=
 ⟨h.1,h.2.1,h.2.2.1,fun i hi=>by
  obtain⟨b,off,e,h1,h2⟩:=h.2.2.2 i hi
  exact⟨b,off,e,bl_cell hb h1,bl_cell hb h2⟩⟩
theorem log_nil (w:World) (a:Option Addr) (c:Nat) (hc:c≤9223372036854775807):LogAt w a 0 c []:=⟨rfl,Nat.zero_le _,hc,fun i hi=>absurd hi (Nat.not_lt_zero _)⟩

theorem sumL_take (L:List (Int × Int)) (k:Nat) (h:k<L.length):sumL (L.take (k+1))=sumL (L.take k)+(L.getD k (0,0)).2:=by
 induction L generalizing k with
 | nil=>simp at h
 | cons e l ih =>
  cases k with
  | zero=>simp[sumL]
  | succ k =>
   simp only[List.take_succ_cons,sumL,List.getD_cons_succ]
   rw[ih k (by simpa using h)]
   omega
theorem sumL_bound (L:List (Int × Int)) (m:Int) (h:∀ e ∈ L,0≤e.2∧e.2≤m):0≤sumL L∧sumL L≤L.length*m:=by
 induction L with
 | nil=>simp[sumL]
 | cons e l ih =>
  have h1:=ih (fun x hx=>h x (List.mem_cons_of_mem _ hx))
  have h2:=h e List.mem_cons_self
  simp only[sumL,List.length_cons]
  have:((l.length+1:Nat):Int)*m=l.length*m+m:=by rw[Int.natCast_add,Int.add_mul];simp
  omega

theorem sum_any (a:Option Addr) (n c:Nat) (L:List (Int × Int)) (w:World) (h:LogAt w a n c L) (hn:n≤1000) (hL:∀ e ∈ L,0≤e.2∧e.2≤1048576) :
  Calls Tryz.prog 155 #[.slice a n c] w fun e w'=>e=.returned (.int .i64 (sumL L))∧Below w.heap.size w w':=by
 have hmf:∀ (fn:Fn) (first cap:Array Value) (w:World),(Instr.makeFunc fn first cap).run Tryz.prog w=.ok (.func fn first cap) w:=fun _ _ _ _=>rfl
 have HH:=Go.Lib.hid h
 have hlen:=h.1
 have hstep:∀ k,k<n→∃ C,(L.getD k (0,0)).2=C∧0≤C∧C≤1048576∧0≤sumL (L.take k)∧sumL (L.take k)≤1048576000∧sumL (L.take (k+1))=sumL (L.take k)+C:=fun k hk=>by
  have hkl:k<L.length:=by omega
  have h1:L.getD k (0,0) ∈ L:=by rw[List.getD_eq_getElem?_getD,List.getElem?_eq_getElem hkl];exact List.getElem_mem hkl
  have h2:=hL _ h1
  have h3:=sumL_bound (L.take k) 1048576 (fun e he=>hL e (List.mem_of_mem_take he))
  have h4:(L.take k).length≤1000:=by rw[List.length_take];omega
  have h5:((L.take k).length:Int)*1048576≤1048576000:=by omega
  exact⟨_,rfl,h2.1,h2.2,h3.1,by omega,sumL_take L k hkl⟩
 have HS:=Go.Lib.hid hstep
 have hend:sumL (L.take n)=sumL L:=by rw[← hlen,List.take_length]
 have HE:=Go.Lib.hid hend
 clear h hL hstep hend hlen
 go_enter Tryz.func155,Tryz.ntmps155
 go_wp2_with fail
 go_loopw [10] (fun s10 wr=>∃ k:Nat,s10=.int .i64 k∧k≤n∧Hid (Below w.heap.size w wr∧wr.cell? ⟨w.heap.size,0,none⟩=some (.int .i64 (sumL (L.take k)))∧wr.frozen? ⟨w.heap.size,0,none⟩=false))
  (fun s10 _=>n - (intOf s10).toNat)
 case atStart=>exact⟨0,rfl,Nat.zero_le _,⟨k1,by simp[sumL],by simp⟩⟩
 case round =>
  obtain⟨k,rfl,hk,H⟩:=hrel
  obtain⟨hb,hq,hf⟩:=H.out
  have hlt:=World.block_lt_of_cell? wr _ hq
  dsimp only at hlt
  by_cases hkn:k<n
  ·obtain ⟨b,off,rfl,h1,h2⟩:=HH.out.2.2.2 k hkn
   have g1:=bl_cell hb h1
   have g2:=bl_cell hb h2
   obtain⟨C,hC,c0,c1,s0,s1,hs⟩:=HS.out k hkn
   rw[hC] at g2
   generalize (L.getD k (0,0)).1=T at g1
   have lb:=World.block_lt_of_cell? wr _ g1
   dsimp only at lb
   generalize hSk:sumL (L.take k)=Sk at *
   have hw:IntKind.i64.wrap (Sk+C)=Sk+C:=IntWalk.i64_in _ (by omega)
   have hk0:(0:Int)≤(k:Int):=by omega
   have hk1:(k:Int)<(n:Int):=by omega
   clear h1 h2 hC hSk H
   go_wp2
   go_roundw
   case rel =>
    refine⟨k+1,by go_num,by omega,?_⟩
    rw[hs]
    exact⟨bl_alloc (bl_alloc (bl_set hb (Nat.le_refl _) _) _) _,by go_simp,by go_simp⟩
   case measure=>simp[intOf];omega
  ·have hke:k=n:=by omega
   subst hke
   rw[HE.out] at hq
   go_wp2
   go_ret
   exact⟨rfl,hb⟩
/-- Entries as cells. -/
def cellsL:List (Int × Int)→List Value
 | []=>[]
 | e :: l => .int .i64 e.1 :: .int .i64 e.2 :: cellsL l
theorem cellsL_len (L:List (Int × Int)):(cellsL L).length=L.length*2:=by
 induction L with
 | nil=>rfl
 | cons e l ih=>simp only[cellsL,List.length_cons,ih];omega
theorem cellsL_get (L:List (Int × Int)) (i:Nat) (h:i<L.length):(cellsL L)[i*2]?=some (.int .i64 (L.getD i (0,0)).1)∧(cellsL L)[i*2+1]?=some (.int .i64 (L.getD i (0,0)).2):=by
 induction L generalizing i with
 | nil=>simp at h
 | cons e l ih =>
  cases i with
  | zero=>simp[cellsL]
  | succ i =>
   have:=ih i (by simpa using h)
   rw[show(i+1)*2=i*2+1+1 by omega]
   simpa [cellsL] using this
theorem cellsL_one (L:List (Int × Int)):∀ u ∈ cellsL L,u.oneCell'=true:=by
 induction L with
 | nil=>intro u h;cases h
 | cons e l ih =>
  intro u h
  simp only[cellsL,List.mem_cons] at h
  rcases h with rfl|rfl|h
  ·rfl
  ·rfl
  ·exact ih u h
theorem cellsL_at {L:List (Int × Int)} {b off:Nat} {w:World} (h:∀ i,i<L.length→w.cell? ⟨b,off+i*2,none⟩=some (.int .i64 (L.getD i (0,0)).1)∧w.cell? ⟨b,off+i*2+1,none⟩=some (.int .i64 (L.getD i (0,0)).2)) :
  ∀ j u,(cellsL L)[j]?=some u→w.cell? ((⟨b,off,none⟩:Addr).add j)=some u:=by
 intro j u hj
 have hjl:j<(cellsL L).length:=(List.getElem?_eq_some_iff.1 hj).1
 rw[cellsL_len] at hjl
 have hd:j=j / 2*2∨j=j / 2*2+1:=by omega
 have h1:=h (j / 2) (by omega)
 have h2:=cellsL_get L (j / 2) (by omega)
 rcases hd with e|e
 ·rw[e] at hj ⊢
  rw[h2.1] at hj
  rw[Addr.add_lit,← hj]
  exact h1.1
 ·rw[e] at hj ⊢
  rw[h2.2] at hj
  rw[Addr.add_lit,← hj,← Nat.add_assoc]
  exact h1.2
/-- Entries of one's own. -/
def OwnLog (w:World) (base:Nat) (v:Value) (n:Nat) (L:List (Int × Int)):Prop:=w.ownsRow base 82 2 v n (cellsL L)

theorem infoE:(Tryz.prog.info? 82).map (fun i=>(i.zero,i.size,i.bytes))=some (some (.agg #[.int .i64 0,.int .i64 0]),2,16):=by kernel_rfl
theorem undS:Tryz.prog.underlying 24=some (.slice 82):=by kernel_rfl

theorem clone_nil (n c:Nat) (w:World):Calls Tryz.prog 142 #[.slice none n c] w fun e w'=>e=.returned (.slice none 0 0)∧w=w':=by
 have q22:∀ (w:World) (a:Option Addr) (n c n' c':Nat),(binOp .eql 24 (.slice a n c) (.slice none n' c')).run Tryz.prog w=.ok (.bool a.isNone) w:=fun w a n c n' c'=>Lib.run_eql_slice_nil w _ _ a n c n' c' undS
 go_enter Tryz.func142,Tryz.ntmps142
 go_wp2
 go_ret
 exact⟨rfl,rfl⟩

theorem clone_any (ad:Addr) (n c:Nat) (L:List (Int × Int)) (w:World) (hl:L.length=n) (hn:n≤1000) (hc:∀ j u,(cellsL L)[j]?=some u→w.cell? (ad.add j)=some u) :
  Calls Tryz.prog 142 #[.slice (some ad) n c] w fun e w'=>∃ v',e=.returned v'∧OwnLog w' w.heap.size v' n L∧Below w.heap.size w w':=by
 have q22:∀ (w:World) (a:Option Addr) (n c n' c':Nat),(binOp .eql 24 (.slice a n c) (.slice none n' c')).run Tryz.prog w=.ok (.bool a.isNone) w:=fun w a n c n' c'=>Lib.run_eql_slice_nil w _ _ a n c n' c' undS
 have u22:∀ w,Sem.run Tryz.prog (underlying 24) w=.ok (TypeDesc.slice 82) w:=run_underlying undS
 have z23:∀ w,(Go.sizeOf 82).run Tryz.prog w=.ok 2 w:=by intro w;kernel_rfl
 obtain⟨i0,hi,hz0,hz1,hz2⟩:=info_parts infoE
 have A:Aside (∀ j u,(cellsL L)[j]?=some u→w.cell? (ad.add j)=some u):=hc
 clear hc
 go_enter Tryz.func142,Tryz.ntmps142
 go_wp2_with (at_builtin;refine wpList_append_own _ rfl _ _ 24 rfl w.heap.size 82 i0 (.agg #[.int .i64 0,.int .i64 0]) 2 16 undS hi hz0 hz1 hz2 rfl (by decide) _ _ _ rfl (World.ownsRow_made w #[] 0 (Nat.le_refl _) (Nat.zero_le _) (by simp)) ad n c (cellsL L) rfl ?qc1 ?qc2 ?qc3 ?qc4 ?qc5 ?qc6 ?_)
 case qc1=>rw[cellsL_len,hl]
 case qc2 =>
  intro j u hj
  exact bl_cell k1 (A.out j u hj)
 case qc3=>exact cellsL_one L
 case qc4=>rw[Nat.zero_add];simp only[maxLen];omega
 case qc5=>rw[Nat.zero_add];omega
 case qc6=>simp
 intro v' w1 hown hgrow hnil
 go_wp2
 go_ret
 refine⟨v',rfl,by simpa [OwnLog] using hown,?_⟩
 exact((Below.refl _ w).alloc (Nat.le_refl _) _).grown hgrow (by simp) (by intro k hk;simp[Value.ownBlock] at hk;omega)
theorem own_log {w:World} {base:Nat} {v:Value} {n:Nat} {L:List (Int × Int)} (h:OwnLog w base v n L):∃ a c,v=.slice a n c∧LogAt w a n c L:=by
 obtain⟨hl,h⟩:=h
 rw[cellsL_len] at hl
 have hl':L.length=n:=by omega
 rcases h with⟨rfl,rfl⟩|⟨g,cap,cur,rfl,hb,hg,hn,hc,hs,ht⟩
 ·refine⟨none,0,rfl,?_⟩
  rw[List.length_eq_zero_iff.1 hl']
  exact log_nil _ _ _ (by omega)
 ·refine⟨some ⟨g,0,none⟩,cap,rfl,hl',hn,by simp only[maxLen] at hc;omega,fun i hi=>⟨g,0,rfl,?_⟩⟩
  have hg2:=cellsL_get L i (by omega)
  rw[← ht] at hg2
  rw[List.getElem?_take_of_lt (by omega),List.getElem?_take_of_lt (by omega)] at hg2
  simp only[World.cell?,hg,Nat.zero_add]
  exact⟨by simpa using hg2.1,by simpa using hg2.2⟩
theorem cells_drop {L:List (Int × Int)} {b off n k:Nat} {w:World} (hl:L.length=n) (h:∀ i,i<n→w.cell? ⟨b,off+i*2,none⟩=some (.int .i64 (L.getD i (0,0)).1)∧w.cell? ⟨b,off+i*2+1,none⟩=some (.int .i64 (L.getD i (0,0)).2)) :
  ∀ j u,(cellsL (L.drop k))[j]?=some u→w.cell? ((⟨b,off+k*2,none⟩:Addr).add j)=some u:=by
 refine cellsL_at fun i hi=>?_
 rw[List.length_drop] at hi
 have:=h (k+i) (by omega)
 have e:(L.drop k).getD i (0,0)=L.getD (k+i) (0,0):=by simp[List.getD_eq_getElem?_getD,List.getElem?_drop]
 rw[e,show off+k*2+i*2=off+(k+i)*2 by omega]
 exact this
theorem own_mono {w:World} {base base':Nat} {v:Value} {n:Nat} {L:List (Int × Int)} (h:OwnLog w base v n L) (hb:base'≤base):OwnLog w base' v n L:=by
 obtain⟨hl,h⟩:=h
 refine⟨hl,?_⟩
 rcases h with h|⟨g,cap,cur,h1,h2,h3⟩
 ·exact .inl h
 ·exact .inr ⟨g,cap,cur,h1,Nat.le_trans hb h2,h3⟩
theorem own_set4 {w:World} {base b:Nat} {v v0 v1 v2 v3:Value} {n:Nat} {L:List (Int × Int)} (h:OwnLog w base v n L) (hb:b<base) :
  OwnLog ((((w.setCell ⟨b,0,none⟩ v0).setCell ⟨b,1,none⟩ v1).setCell ⟨b,2,none⟩ v2).setCell ⟨b,3,none⟩ v3) base v n L:=by
 obtain⟨hl,h⟩:=h
 refine⟨hl,?_⟩
 rcases h with h|⟨g,cap,cur,h1,h2,h3,h4⟩
 ·exact .inl h
 ·refine .inr ⟨g,cap,cur,h1,h2,?_,h4⟩
  rw[Below.heap_setCell _ _ _ _ (by dsimp only;omega),Below.heap_setCell _ _ _ _ (by dsimp only;omega),Below.heap_setCell _ _ _ _ (by dsimp only;omega),Below.heap_setCell _ _ _ _ (by dsimp only;omega)]
  exact h3
/-- Is it written into the last entry? -/
def into (full:Bool) (at_:Int) (L:List (Int × Int)):Prop:=L≠[]∧((L.getD (L.length - 1) (0,0)).1=at_∨full=true)
theorem noteL_cons (full:Bool) (at_ cost:Int) (e f:Int × Int) (l:List (Int × Int)):noteL full at_ cost (e :: f :: l)=e :: noteL full at_ cost (f :: l):=rfl
theorem into_cons {full:Bool} {at_:Int} {e f:Int × Int} {l:List (Int × Int)}:into full at_ (e :: f :: l)↔into full at_ (f :: l):=by
 unfold into
 simp
theorem note_app (full:Bool) (at_ cost:Int):∀ (L:List (Int × Int)),¬ into full at_ L→noteL full at_ cost L=L ++ [(at_,cost)]
 | [],_=>rfl
 | [e],h=>by
  show(if _ then _ else _)=_
  rw[if_neg (fun h1=>h ⟨by simp,by simpa using h1⟩)]
  rfl
 | e :: f :: l,h=>by
  rw[noteL_cons,note_app full at_ cost (f :: l) (fun h1=>h (into_cons.2 h1))]
  rfl
theorem note_into (full:Bool) (at_ cost:Int):∀ (L:List (Int × Int)),into full at_ L →
  cellsL (noteL full at_ cost L)=((cellsL L).set ((L.length - 1)*2) (.int .i64 at_)).set ((L.length - 1)*2+1) (.int .i64 ((L.getD (L.length - 1) (0,0)).2+cost))∧(noteL full at_ cost L).length=L.length
 | [],h=>absurd rfl h.1
 | [e],h=>by
  have h2:e.1=at_∨full=true:=by simpa [into] using h
  have e1:noteL full at_ cost [e]=[(at_,e.2+cost)]:=if_pos h2
  rw[e1]
  exact⟨by simp[cellsL],rfl⟩
 | e :: f :: l,h=>by
  have ih:=note_into full at_ cost (f :: l) (into_cons.1 h)
  rw[noteL_cons]
  refine⟨?_,by simp[ih.2]⟩
  simp only[cellsL] at ih ⊢
  rw[ih.1]
  have e1:(e :: f :: l).length - 1=((f :: l).length - 1)+1:=by simp
  have e2:(e :: f :: l).getD ((f :: l).length - 1+1) (0,0)=(f :: l).getD ((f :: l).length - 1) (0,0):=by simp
  rw[e1,e2,show((f :: l).length - 1+1)*2=((f :: l).length - 1)*2+1+1 by omega,show((f :: l).length - 1)*2+1+1+1=(((f :: l).length - 1)*2+1)+1+1 by omega]
  simp only[List.set_cons_succ]
def chkL (p:Pol):Int:=if okL p then 0 else 2
theorem chkL_ok {p:Pol} (h:okL p):0=chkL p:=by unfold chkL;rw[if_pos h]
theorem chkL_no {p:Pol} (h:¬ okL p):2=chkL p:=by unfold chkL;rw[if_neg h]

theorem wcheck_any (p:Pol) (w:World):Calls Tryz.prog 103 #[p.v] w fun e w'=>e=.returned (.int .i64 (chkL p))∧Below w.heap.size w w':=by
 obtain⟨k,l,d,b,c,o⟩:=p
 generalize hX:chkL ⟨k,l,d,b,c,o⟩=C at *
 have HX:=Go.Lib.hid hX
 clear hX
 unfold Pol.v
 go_enter Tryz.func103,Tryz.ntmps103
 go_wp2
 all_goals
  go_ret
  have hX:=HX.out
  refine⟨congrArg (fun x=>Ending.returned (.int .i64 x)) ?_,k1⟩
  rw[← hX]
  try simp only[bne_iff_ne,ne_eq,bne_eq_false_iff_eq] at *
  first
   | (refine chkL_ok ?_;unfold okL;dsimp only;omega)
   | (refine chkL_no ?_;unfold okL;dsimp only;intro hh;obtain⟨q0,q1,q2,q3,q4,q5,q6,q7⟩:=hh;omega)
theorem risen_all {limit at_:Int}:∀ {was:Int} {L:List (Int × Int)},risen limit at_ was L→∀ e ∈ L,1≤e.2∧e.2≤limit∧was≤e.1∧e.1≤at_
 | _,[],_,e,h=>by cases h
 | was,x :: l,h,e,he=>by
  obtain⟨h1,h2,h3,h4,h5⟩:=h
  rcases List.mem_cons.1 he with rfl|he
  ·exact⟨h3,h4,h1,h2⟩
  ·have:=risen_all h5 e he
   exact⟨this.1,this.2.1,by omega,this.2.2.2⟩
theorem risen_cons {limit at_ was:Int} {e:Int × Int} {l:List (Int × Int)}:risen limit at_ was (e :: l)↔(was≤e.1∧e.1≤at_∧1≤e.2∧e.2≤limit∧risen limit at_ e.1 l):=Iff.rfl
theorem drop_getD (L:List (Int × Int)) (k:Nat) (h:k<L.length):L.drop k=L.getD k (0,0) :: L.drop (k+1):=by
 rw[List.drop_eq_getElem_cons h,List.getD_eq_getElem?_getD,List.getElem?_eq_getElem h]
 rfl

theorem logged_walk (k l d b cc:Int) (o:Bool) (at_ level held:Int) (a:Option Addr) (n c:Nat) (L:List (Int × Int)) (w:World) (hlog:LogAt w a n c L) (r:Bool)
  (hl:1≤l∧l≤1048576) (hcc:cc≤100) (hh:0≤held∧held≤l)
  (hr:r=true↔(risen l at_ 0 L∧(n:Int)≤cc∧held+sumL L≤l)) :
  Calls Tryz.prog 154 #[.agg #[.int .i64 k,.int .i64 l,.int .i64 d,.int .i64 b,.int .i64 cc,.bool o],.agg #[.int .i64 at_,.int .i64 level,.int .i64 held,.slice a n c]] w fun e w'=>e=.returned (.bool r)∧Below w.heap.size w w':=by
 have HR:=Go.Lib.hid hr
 have HL:=Go.Lib.hid hlog
 have HX:=Go.Lib.hid (And.intro hl (And.intro hcc hh))
 have hdr:∀ j,j<n→L.drop j=L.getD j (0,0) :: L.drop (j+1):=fun j hj=>drop_getD L j (by rw[hlog.1];exact hj)
 have hdn:L.drop n=[]:=List.drop_eq_nil_of_le (by rw[hlog.1];exact Nat.le_refl _)
 have HD:=Go.Lib.hid (And.intro hdr hdn)
 clear hr hlog hl hcc hh hdr hdn
 go_enter Tryz.func154,Tryz.ntmps154
 go_wp2_with fail
 refine wp_abs (S0:=fun w'=>P6 w' (w.heap.size) k l d b cc o (S4 w' (w.heap.size+1) at_ level held a n c (Below w.heap.size w w'))) ⟨by go_simp,by go_simp,by go_simp,by go_simp,by go_simp,by go_simp,by go_simp,by go_simp,by go_simp,by go_simp,k2⟩ ?_
 rintro W ⟨c0,c1,c2,c3,c4,c5,c6,c7,c8,c9,hB⟩
 go_loopw [5,11] (fun s5 s11 wr=>∃ (x:Int) (j:Nat),s5=.int .i64 x∧s11=.int .i64 j∧j≤n∧Hid (Below W.heap.size W wr∧(risen l at_ 0 L↔risen l at_ x (L.drop j))))
  (fun _ s11 _=>n - (intOf s11).toNat)
 case atStart=>exact⟨0,0,rfl,rfl,Nat.zero_le _,⟨Below.refl _ _,by simp⟩⟩
 case round =>
  obtain⟨x,j,rfl,rfl,hj,H⟩:=hrel
  obtain⟨hb,hri⟩:=H.out
  have d0:=bl_cell hb c0
  have d1:=bl_cell hb c1
  have d2:=bl_cell hb c2
  have d3:=bl_cell hb c3
  have d4:=bl_cell hb c4
  have d5:=bl_cell hb c5
  have d6:=bl_cell hb c6
  have d7:=bl_cell hb c7
  have d8:=bl_cell hb c8
  have d9:=bl_cell hb c9
  have dB:Below w.heap.size w wr:=hB.trans (hb.mono hB.size)
  have l1:w.heap.size+1<wr.heap.size:=World.block_lt_of_cell? wr _ d6
  have l0:w.heap.size<wr.heap.size:=by omega
  by_cases hjn:j<n
  ·obtain ⟨bb,off,rfl,h1,h2⟩:=HL.out.2.2.2 j hjn
   have g1:=bl_cell dB h1
   have g2:=bl_cell dB h2
   rw[HD.out.1 j hjn] at hri
   rw[risen_cons] at hri
   generalize (L.getD j (0,0)).1=T at g1 hri
   generalize (L.getD j (0,0)).2=C at g2 hri
   have hk0:(0:Int)≤(j:Int):=by omega
   have hk1:(j:Int)<(n:Int):=by omega
   have hj1:j+1≤n:=hjn
   have hnm:(n:Int)≤9223372036854775807:=by have:=HL.out.2.1;have:=HL.out.2.2.1;omega
   have hms:n - (j+1)<n - j:=by omega
   have HRI:=Go.Lib.hid hri
   clear h1 h2 hri H hB c0 c1 c2 c3 c4 c5 c6 c7 c8 c9
   by_cases q1:x≤T
   ·have e0 : ¬ T<x:=by omega
    by_cases q2:T≤at_
    ·have e1:¬ at_<T:=by omega
     by_cases q3:1≤C
     ·have e2:¬ C<1:=by omega
      by_cases q4:C≤l
      ·have e3:¬ l<C:=by omega
       go_wp2_with fail
       go_roundw
       case rel=>exact⟨T,j+1,rfl,by go_num,hj1,⟨hb.trans (k1 |>.mono hb.size),HRI.out.trans ⟨fun z=>z.2.2.2.2,fun z=>⟨q1,q2,q3,q4,z⟩⟩⟩⟩
       case measure=>(simp[intOf];first|exact hms|omega)
      ·have e3:l<C:=by omega
       go_wp2_with fail
       go_ret
       have hfalse:r=false:=by
        cases hrr:r
        ·rfl
        ·exact absurd (HRI.out.1 (HR.out.1 hrr).1) (by intro hz;omega)
       exact⟨by subst hfalse;rfl,bl_alloc dB _⟩
     ·have e2:C<1:=by omega
      go_wp2_with fail
      go_ret
      have hfalse:r=false:=by
       cases hrr:r
       ·rfl
       ·exact absurd (HRI.out.1 (HR.out.1 hrr).1) (by intro hz;omega)
      exact⟨by subst hfalse;rfl,bl_alloc dB _⟩
    ·have e1:at_<T:=by omega
     go_wp2_with fail
     go_ret
     have hfalse:r=false:=by
      cases hrr:r
      ·rfl
      ·exact absurd (HRI.out.1 (HR.out.1 hrr).1) (by intro hz;omega)
     exact⟨by subst hfalse;rfl,bl_alloc dB _⟩
   ·have e0:T<x:=by omega
    go_wp2_with fail
    go_ret
    have hfalse:r=false:=by
     cases hrr:r
     ·rfl
     ·exact absurd (HRI.out.1 (HR.out.1 hrr).1) (by intro hz;omega)
    exact⟨by subst hfalse;rfl,bl_alloc dB _⟩
  ·have hje:n=j:=by omega
   subst hje
   rw[HD.out.2] at hri
   have HRI:=Go.Lib.hid (show risen l at_ 0 L from hri.2 trivial)
   clear hri H hb hB c0 c1 c2 c3 c4 c5 c6 c7 c8 c9
   have hall:=risen_all HRI.out
   have hX:=HX.out
   go_wp2_with fail
   have hlogr:=log_bl HL.out dB
   by_cases hcap:(n:Int)≤cc
   ·have hsum:=fun W hW=>sum_any a n c L W hW (by omega) (fun e he=>⟨by have:=(hall e he).1;omega,by have:=(hall e he).2.1;omega⟩)
    have hsb:=sumL_bound L 1048576 (fun e he=>⟨by have:=(hall e he).1;omega,by have:=(hall e he).2.1;omega⟩)
    have hlen:(L.length:Int)*1048576≤104857600:=by rw[HL.out.1];omega
    have hw:IntKind.i64.wrap (held+sumL L)=held+sumL L:=IntWalk.i64_in _ (by omega)
    have hcapd:decide ((n:Int)≤cc)=true:=decide_eq_true hcap
    obtain⟨g,hg⟩:∃ g,decide (held+sumL L≤l)=g:=⟨_,rfl⟩
    have hrg:g=r:=by rw[Bool.eq_iff_iff,HR.out,← hg,decide_eq_true_eq];exact⟨fun z=>⟨HRI.out,hcap,z⟩,fun z=>z.2.2⟩
    have HS:=Go.Lib.hid hsum
    have HLR:=Go.Lib.hid hlogr
    generalize sumL L=SL at *
    clear hall hX hsum hsb hlen hlogr
    refine wp_region_held_drew (S:=fun w'=>LogAt w' a n c L∧P6 w' (w.heap.size) k l d b cc o (S4 w' (w.heap.size+1) at_ level held a n c (Below w.heap.size w w'))) (by kernel_rfl) ?_ (fun hHeld=>?_)
    ·exact⟨HLR.out,d0,d1,d2,d3,d4,d5,d6,d7,d8,d9,bl_drew dB⟩
    try simp only[Act.put,List.setIfInBounds_toArray,List.set_cons_zero,List.set_cons_succ]
    refine tkx 0 ?_
    refine tkx 1 ?_
    refine tkx 2 ?_
    refine tkx 3 ?_
    refine tkx 4 ?_
    refine tkx 5 ?_
    refine tkx 6 ?_
    refine tkx 7 ?_
    refine tkx 8 ?_
    refine tkx 9 ?_
    refine tkx 10 ?_
    refine tkx 13 ?_
    refine tkx 14 ?_
    (refine callH (i:=11) rfl hHeld (fun W hW K hK=>?_);clear hHeld;(try dsimp only at hW);obtain⟨hwl,hwr⟩:=hW;go_simp;refine(HS.out _ hwl).mono ?_;rintro e w1 ⟨rfl,hb⟩;go_wp2_with fail;refine hK.out _ _ ?_ (fun hHeld=>?_);(focus((try dsimp only);(obtain⟨h0,h1,h2,h3,h4,h5,h6,h7,h8,h9,hB'⟩:=hwr;exact⟨log_bl hwl hb,bl_cell hb h0,bl_cell hb h1,bl_cell hb h2,bl_cell hb h3,bl_cell hb h4,bl_cell hb h5,bl_cell hb h6,bl_cell hb h7,bl_cell hb h8,bl_cell hb h9,bl_then hB' hb⟩)));clear hK K;try simp only[Act.put,List.setIfInBounds_toArray,List.set_cons_zero,List.set_cons_succ])
    refine tkx 12 ?_
    refine tkx 15 ?_
    refine tkx 16 ?_
    refine tkx 17 ?_
    refine wpAnyH_done (by kernel_rfl) ?_ _
    obtain⟨-,-,-,-,-,-,-,-,-,-,-,hE⟩:=hHeld
    repeat' (first|go_skip|go_guarded|go_step|go_upon)
    go_ret
    exact⟨by subst hrg;rfl,hE⟩
   ·have hcapd:decide ((n:Int)≤cc)=false:=decide_eq_false hcap
    have hrf:r=false:=by
     cases hrr:r
     ·rfl
     ·exact absurd (HR.out.1 hrr).2.1 hcap
    clear hall hX hlogr
    refine wp_region_held_drew (S:=fun w'=>P6 w' (w.heap.size) k l d b cc o (S4 w' (w.heap.size+1) at_ level held a n c (Below w.heap.size w w'))) (by kernel_rfl) ?_ (fun hHeld=>?_)
    ·exact⟨d0,d1,d2,d3,d4,d5,d6,d7,d8,d9,bl_drew dB⟩
    try simp only[Act.put,List.setIfInBounds_toArray,List.set_cons_zero,List.set_cons_succ]
    refine tkx 0 ?_
    refine tkx 1 ?_
    refine tkx 2 ?_
    refine tkx 3 ?_
    refine tkx 4 ?_
    refine tkx 5 ?_
    refine tkx 6 ?_
    first|refine tqx 7 ?_|refine tkx 7 ?_
    first|refine tqx 8 ?_|refine tkx 8 ?_
    first|refine tqx 9 ?_|refine tkx 9 ?_
    first|refine tqx 10 ?_|refine tkx 10 ?_
    first|refine tqx 13 ?_|refine tkx 13 ?_
    first|refine tqx 14 ?_|refine tkx 14 ?_
    first|refine tqx 11 ?_|refine tkx 11 ?_
    first|refine tqx 12 ?_|refine tkx 12 ?_
    first|refine tqx 15 ?_|refine tkx 15 ?_
    refine tkx 16 ?_
    refine tkx 17 ?_
    refine wpAnyH_done (by kernel_rfl) ?_ _
    obtain⟨-,-,-,-,-,-,-,-,-,-,hE⟩:=hHeld
    repeat' (first|go_skip|go_guarded|go_step|go_upon)
    go_ret
    exact⟨by subst hrf;rfl,hE⟩
theorem wright_walk (k l d b cc:Int) (o:Bool) (at_ level held:Int) (a:Option Addr) (n c:Nat) (L:List (Int × Int)) (w:World) (hlog:LogAt w a n c L) (r:Bool)
  (hr:r=true↔(okL ⟨k,l,d,b,cc,o⟩∧0≤at_∧at_≤9007199254740992∧0≤held∧held≤l∧level=0∧risen l at_ 0 L∧(n:Int)≤cc∧held+sumL L≤l)) :
  Calls Tryz.prog 105 #[.agg #[.int .i64 k,.int .i64 l,.int .i64 d,.int .i64 b,.int .i64 cc,.bool o],.agg #[.int .i64 at_,.int .i64 level,.int .i64 held,.slice a n c]] w fun e w'=>e=.returned (.bool r)∧Below w.heap.size w w':=by
 have HR:=Go.Lib.hid hr
 clear hr
 have hck:=wcheck_any ⟨k,l,d,b,cc,o⟩
 unfold Pol.v at hck
 dsimp only at hck
 have hC:(chkL ⟨k,l,d,b,cc,o⟩=0∧okL ⟨k,l,d,b,cc,o⟩)∨(chkL ⟨k,l,d,b,cc,o⟩=2∧¬ okL ⟨k,l,d,b,cc,o⟩):=by
  by_cases h:okL ⟨k,l,d,b,cc,o⟩
  ·exact .inl ⟨(chkL_ok h).symm,h⟩
  ·exact .inr ⟨(chkL_no h).symm,h⟩
 generalize chkL ⟨k,l,d,b,cc,o⟩=C at *
 have HC:=Go.Lib.hid hC
 have HCK:=Go.Lib.hid hck
 obtain⟨g5,hg5⟩:∃ g:Bool,g=decide (risen l at_ 0 L∧(n:Int)≤cc∧held+sumL L≤l):=⟨_,rfl⟩
 have hg5':g5=true↔(risen l at_ 0 L∧(n:Int)≤cc∧held+sumL L≤l):=by rw[hg5,decide_eq_true_eq]
 have HLG:=Go.Lib.hid (show okL ⟨k,l,d,b,cc,o⟩→0≤held→held≤l→∀ W,LogAt W a n c L→_ from fun hok h0 h1 W hW=>logged_walk k l d b cc o at_ level held a n c L W hW g5 ⟨hok.2.1,hok.2.2.2.2.1⟩ hok.2.2.2.2.2.2.1 ⟨h0,h1⟩ hg5')
 have H5:=Go.Lib.hid hg5'
 clear hg5 hg5'
 have hcl:=clamp_any at_
 have hT:(clampT at_ == at_)=true↔0≤at_∧at_≤9007199254740992:=by
  have:=clampT_range at_
  rw[beq_iff_eq]
  constructor
  ·intro h;omega
  ·intro h;exact clampT_id h.1 h.2
 generalize clampT at_=T at *
 obtain⟨g1,hg1⟩:∃ g,(T == at_)=g:=⟨_,rfl⟩
 have hg1':decide (T=at_)=g1:=hg1
 obtain⟨g2,hg2⟩:∃ g,decide (0≤held)=g:=⟨_,rfl⟩
 obtain⟨g3,hg3⟩:∃ g,decide (held≤l)=g:=⟨_,rfl⟩
 obtain⟨g4,hg4⟩:∃ g,(level == 0)=g:=⟨_,rfl⟩
 have hg4':decide (level=0)=g4:=hg4
 rw[hg1] at hT
 have HT:=Go.Lib.hid hT
 have HCL:=Go.Lib.hid hcl
 have HLOG:=Go.Lib.hid hlog
 clear hck hC hcl hT hlog
 go_enter Tryz.func105,Tryz.ntmps105
 go_wp2_with fail
 refine wp_abs (S0:=fun w'=>P6 w' (w.heap.size) k l d b cc o (S4 w' (w.heap.size+1) at_ level held a n c (LogAt w' a n c L∧Below w.heap.size w w'))) ⟨by go_simp,by go_simp,by go_simp,by go_simp,by go_simp,by go_simp,by go_simp,by go_simp,by go_simp,by go_simp,log_bl HLOG.out k2,k2⟩ ?_
 rintro W ⟨c0,c1,c2,c3,c4,c5,c6,c7,c8,c9,hLG,hB⟩
 refine wp_region_held_drew (S:=fun w'=>P6 w' (w.heap.size) k l d b cc o (S4 w' (w.heap.size+1) at_ level held a n c (LogAt w' a n c L∧Below w.heap.size w w'))) (by kernel_rfl) ?_ (fun hHeld=>?_)
 ·exact⟨c0,c1,c2,c3,c4,c5,c6,c7,c8,c9,hLG,bl_drew hB⟩
 try simp only[Act.put,List.setIfInBounds_toArray,List.set_cons_zero,List.set_cons_succ]
 all_goals refine tkx 0 ?_
 all_goals((refine callH (i:=1) rfl hHeld (fun W hW K hK=>?_);clear hHeld;(try dsimp only at hW);go_simp;refine(HCK.out _).mono ?_;rintro e w1 ⟨rfl,hb⟩;go_wp2_with fail;refine hK.out _ _ ?_ (fun hHeld=>?_);(focus((try dsimp only);(obtain⟨h0,h1,h2,h3,h4,h5,h6,h7,h8,h9,hlg,hB'⟩:=hW;exact⟨bl_cell hb h0,bl_cell hb h1,bl_cell hb h2,bl_cell hb h3,bl_cell hb h4,bl_cell hb h5,bl_cell hb h6,bl_cell hb h7,bl_cell hb h8,bl_cell hb h9,log_bl hlg hb,bl_then hB' hb⟩)));clear hK K;try simp only[Act.put,List.setIfInBounds_toArray,List.set_cons_zero,List.set_cons_succ]))
 rcases HC.out with⟨rfl,hok⟩|⟨rfl,hok⟩
 all_goals refine tkx 2 ?_
 all_goals refine tkx 3 ?_
 all_goals(first|(refine tqx 4 ?_)|(refine tkx 4 ?_))
 all_goals(first|(refine tqx 5 ?_)|(refine tkx 5 ?_))
 all_goals(first|(refine tqx 7 ?_)|(refine tkx 7 ?_))
 all_goals(first|(refine tqx 8 ?_)|(refine tkx 8 ?_))
 all_goals(first|(refine tqx 6 ?_)|(refine callH (i:=6) rfl hHeld (fun W hW K hK=>?_);clear hHeld;(try dsimp only at hW);go_simp;refine(HCL.out _).mono ?_;rintro e w1 ⟨rfl,rfl⟩;go_wp2_with fail;refine hK.out _ _ ?_ (fun hHeld=>?_);(focus((try dsimp only);exact hW));clear hK K;try simp only[Act.put,List.setIfInBounds_toArray,List.set_cons_zero,List.set_cons_succ]))
 all_goals(first|(refine tqx 9 ?_)|(refine tkx 9 ?_))
 all_goals refine tkx 10 ?_
 all_goals(first|((fail_if_success (clear hg1 hg1' HT g1));cases g1)|skip)
 all_goals refine tkx 11 ?_
 all_goals(first|(refine tqx 12 ?_)|(refine tkx 12 ?_))
 all_goals(first|(refine tqx 13 ?_)|(refine tkx 13 ?_))
 all_goals(first|(refine tqx 14 ?_)|(refine tkx 14 ?_))
 all_goals refine tkx 15 ?_
 all_goals(first|((fail_if_success (clear hg2 g2));cases g2)|skip)
 all_goals refine tkx 16 ?_
 all_goals(first|(refine tqx 17 ?_)|(refine tkx 17 ?_))
 all_goals(first|(refine tqx 18 ?_)|(refine tkx 18 ?_))
 all_goals(first|(refine tqx 19 ?_)|(refine tkx 19 ?_))
 all_goals(first|(refine tqx 20 ?_)|(refine tkx 20 ?_))
 all_goals(first|(refine tqx 21 ?_)|(refine tkx 21 ?_))
 all_goals refine tkx 22 ?_
 all_goals(first|((fail_if_success (clear hg3 g3));cases g3)|skip)
 all_goals refine tkx 23 ?_
 all_goals(first|(refine tqx 24 ?_)|(refine tkx 24 ?_))
 all_goals(first|(refine tqx 25 ?_)|(refine tkx 25 ?_))
 all_goals(first|(refine tqx 26 ?_)|(refine tkx 26 ?_))
 all_goals refine tkx 27 ?_
 all_goals(first|((fail_if_success (clear hg4 hg4' g4));cases g4)|skip)
 all_goals refine tkx 28 ?_
 all_goals(first|(refine tqx 29 ?_)|(refine tkx 29 ?_))
 all_goals(first|(refine tqx 30 ?_)|(refine tkx 30 ?_))
 all_goals(first|(refine tqx 31 ?_)|(refine callH (i:=31) rfl hHeld (fun W hW K hK=>?_);clear hHeld;(try dsimp only at hW);have hwl:=hW.2.2.2.2.2.2.2.2.2.2.1;go_simp;refine(HLG.out hok (by simpa using hg2) (by simpa using hg3) _ hwl).mono ?_;rintro e w1 ⟨rfl,hb⟩;go_wp2_with fail;refine hK.out _ _ ?_ (fun hHeld=>?_);(focus((try dsimp only);(obtain⟨h0,h1,h2,h3,h4,h5,h6,h7,h8,h9,hlg,hB'⟩:=hW;exact⟨bl_cell hb h0,bl_cell hb h1,bl_cell hb h2,bl_cell hb h3,bl_cell hb h4,bl_cell hb h5,bl_cell hb h6,bl_cell hb h7,bl_cell hb h8,bl_cell hb h9,log_bl hlg hb,bl_then hB' hb⟩)));clear hK K;try simp only[Act.put,List.setIfInBounds_toArray,List.set_cons_zero,List.set_cons_succ]))
 all_goals refine tkx 32 ?_
 all_goals refine tkx 33 ?_
 all_goals(refine wpAnyH_done (by kernel_rfl) ?_ _)
 all_goals(obtain⟨-,-,-,-,-,-,-,-,-,-,-,hE⟩:=hHeld;go_wp2_with fail;go_ret)
 all_goals
  refine⟨congrArg (fun x=>Ending.returned (.bool x)) ?_,hE⟩
  have h1:=HR.out
  have h2:=HT.out
  have h5:=H5.out
  clear HLG
  rw[Bool.eq_iff_iff,h1]
  simp only[Bool.false_eq_true,reduceCtorEq,false_iff,iff_true,true_iff,iff_false,decide_eq_true_eq,decide_eq_false_iff_not,beq_iff_eq,beq_eq_false_iff_ne] at hg1 hg2 hg3 hg4 h2 ⊢
  first
   | (rintro⟨hh0,hh1,hh2,hh3,hh4,hh5,-⟩;first|exact hok hh0|omega)
   | (rw[h5];exact⟨fun z=>⟨hok,by omega,by omega,by omega,by omega,by omega,z⟩,fun z=>z.2.2.2.2.2.2⟩)
theorem wright_any (p:Pol) (s:St) (a:Option Addr) (n c:Nat) (w:World) (h:LogAt w a n c s.log) :
  Calls Tryz.prog 105 #[p.v,s.v a n c] w fun e w'=>e=.returned (.bool (decide (rightL p s)))∧Below w.heap.size w w':=by
 refine wright_walk p.kind p.limit p.period p.burst p.cap p.opn s.at_ s.level s.held a n c s.log w h _ ?_
 rw[decide_eq_true_eq]
 unfold rightL
 rw[h.1]
end Go.Proofs.YtmhikkbdhboodaaGreat
