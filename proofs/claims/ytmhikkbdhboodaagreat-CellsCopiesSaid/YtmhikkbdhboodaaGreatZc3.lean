/-
  What cells reckon: a list of cells, from the oldest on; looking, setting, sweeping; in plain Lean.
  A map with int keys whose elements are whatever values: as a list of keys and elements, rising by key. Plain words over the kit's 'ownsMap'.
  A table, plainly: places found by probing, linked in an order; a key put, taken away, the ways behind it laid anew.
  A table in memory: its box, its row of places, its row of places that are free, its ways.
  What hash.Sum answers.
  What the table's at answers.
  A world in which only some blocks have turned.
  A table in memory, behind a store.
  What the table's find and count answer.
  What the table's cut does.
  What the table's lay does.
  What the table's touch does.
  What the table's put does with a key that is there, and where there is no room.
  A place put behind the places, a number behind those that are free: where the row then lies.
  A table in memory: a free place taken, a place more, a place filled.
  No condition.
-/
import Derived.Test.YtmhikkbdhboodaaGreatZc1
import Derived.Test.YtmhikkbdhboodaaGreatZc2
import Derived.Laws.AppendOwn
import Derived.Laws.OwnMore
import Derived.ArgAppend
import Derived.OneCell
import Derived.WalkSmall
import Derived.WideLaws
set_option maxHeartbeats 8000000
set_option maxRecDepth 100000
namespace Go.Proofs.YtmhikkbdhboodaaGreat
set_option linter.unusedVariables false
set_option linter.unusedSimpArgs false

/-- A cell. -/
structure Cl where
 key:Key
 pol:Pol
 st:St
def polE (p q:Pol):Bool:=decide (p.kind=q.kind∧p.limit=q.limit∧p.period=q.period∧p.burst=q.burst∧p.cap=q.cap∧p.opn=q.opn)
theorem polE_iff (p q:Pol):polE p q=true↔p=q:=by
 unfold polE
 rw[decide_eq_true_iff]
 constructor
 ·rintro⟨h1,h2,h3,h4,h5,h6⟩
  cases p;cases q
  simp only at h1 h2 h3 h4 h5 h6
  subst h1 h2 h3 h4 h5 h6
  rfl
 ·rintro rfl
  exact⟨rfl,rfl,rfl,rfl,rfl,rfl⟩
def cFresh (now:Int) (x:Cl):Bool:=untilP x.pol x.st now == 0
def cOpen (x:Cl):Bool:=x.pol.opn && decide (x.st.held=0)
def cHas (L:List Cl) (k:Key):Bool:=L.any fun x=>x.key == k
def cWithout (L:List Cl) (k:Key):List Cl:=L.filter fun x => !(x.key == k)
def cLook (L:List Cl) (k:Key) (p:Pol) (now:Int):St :=
 match L.find? fun x=>x.key == k && polE x.pol p with
 | some x=>x.st
 | none=>newP p now
def cVictim (L:List Cl) (now:Int):Option Cl:=(L.find? (cFresh now)).or (L.find? cOpen)
def cRoom (room:Nat) (L:List Cl) (now:Int):Option (List Cl) :=
 if L.length<room then some L else(cVictim L now).map fun v=>cWithout L v.key
def cSet (room:Nat) (L:List Cl) (x:Cl) (now:Int):List Cl × Int :=
 if rightP x.pol x.st=false then(L,2)
 else if cFresh now x=true then(cWithout L x.key,0)
 else if cHas L x.key=true then(cWithout L x.key ++ [x],0)
 else match cRoom room L now with
  | some M=>(M ++ [x],0)
  | none=>(L,5)
def cKept (L:List Cl) (now:Int):List Cl:=L.filter fun x => !(cFresh now x)
def cSweep (L:List Cl) (now:Int):List Cl × Int:=(cKept L now,(L.length:Int) - ((cKept L now).length:Int))
/-- Keys differ. -/
def Apart (L:List Cl):Prop:=(L.map (·.key)).Nodup
theorem apart_without {L:List Cl} (h:Apart L) (k:Key):Apart (cWithout L k):=h.sublist (List.Sublist.map _ List.filter_sublist)
theorem apart_kept {L:List Cl} (h:Apart L) (now:Int):Apart (cKept L now):=h.sublist (List.Sublist.map _ List.filter_sublist)
theorem without_no {L:List Cl} {k:Key} (h:∀ x ∈ L,x.key≠k):cWithout L k=L:=by
 unfold cWithout
 rw[List.filter_eq_self]
 intro x hx
 simpa using h x hx
theorem without_mid {A B:List Cl} {x:Cl} (h:Apart (A ++ x :: B)):cWithout (A ++ x :: B) x.key=A ++ B:=by
 have hn:=h
 unfold Apart at hn
 rw[List.map_append,List.map_cons,List.nodup_append] at hn
 obtain⟨h1,h2,h3⟩:=hn
 have ha:∀ y ∈ A,y.key≠x.key:=fun y hy=>h3 y.key (List.mem_map.2 ⟨y,hy,rfl⟩) x.key (List.mem_cons_self ..)
 have hb:∀ y ∈ B,y.key≠x.key:=fun y hy e=>(List.nodup_cons.1 h2).1 (List.mem_map.2 ⟨y,hy,e⟩)
 have e1:=without_no ha
 have e2:=without_no hb
 unfold cWithout at e1 e2 ⊢
 rw[List.filter_append,List.filter_cons,e1,e2]
 simp
theorem apart_snoc {L:List Cl} {x:Cl} (h:Apart L) (hx:∀ y ∈ L,y.key≠x.key):Apart (L ++ [x]):=by
 unfold Apart at h ⊢
 rw[List.map_append,List.nodup_append]
 refine⟨h,by simp,fun a ha b hb=>?_⟩
 obtain⟨y,hy,rfl⟩:=List.mem_map.1 ha
 have:b=x.key:=by simpa using hb
 rw[this]
 exact hx y hy
theorem without_key {L:List Cl} {k:Key}:∀ y ∈ cWithout L k,y.key≠k:=fun y hy=>by
 have:=(List.mem_filter.1 hy).2
 simpa using this
theorem has_false {L:List Cl} {k:Key}:cHas L k=false↔∀ x ∈ L,x.key≠k:=by
 unfold cHas
 rw[List.any_eq_false]
 simp
theorem room_sub {room:Nat} {L M:List Cl} {now:Int} (h:cRoom room L now=some M):M.Sublist L:=by
 unfold cRoom at h
 split at h
 ·injection h with h;subst h;exact List.Sublist.refl _
 ·cases hv:cVictim L now with
  | none=>rw[hv] at h;cases h
  | some v =>
   rw[hv] at h
   injection h with h
   subst h
   exact List.filter_sublist
theorem apart_set {room:Nat} {L:List Cl} {x:Cl} {now:Int} (h:Apart L):Apart (cSet room L x now).1:=by
 unfold cSet
 split
 ·exact h
 ·split
  ·exact apart_without h _
  ·split
   ·exact apart_snoc (apart_without h _) without_key
   ·next hno =>
    have hno':=has_false.1 (by simpa using hno)
    cases hr:cRoom room L now with
    | none=>exact h
    | some M =>
     have hs:=room_sub hr
     exact apart_snoc (List.Sublist.nodup (hs.map _) h) fun y hy=>hno' y (hs.subset hy)
theorem right_log {p:Pol} {s:St} (h:rightP p s=true):s.log.length≤100:=by
 unfold rightP at h
 split at h
 ·have:=of_decide_eq_true h;rw[this.2.2.2.2.2.2.2];exact Nat.zero_le _
 ·split at h
  ·have h1:=of_decide_eq_true h
   have h2:=h1.1.2.2.2.2.2.2.1
   have h3:=h1.2.2.2.2.2.2.2.1
   omega
  ·split at h
   ·have h1:=of_decide_eq_true h
    have h2:=h1.2.2.2.2.2.2.2.2
    rw[h2];exact Nat.zero_le _
   ·have h1:=of_decide_eq_true h
    rw[h1.2.2.2.2.2.2.2];exact Nat.zero_le _
end Go.Proofs.YtmhikkbdhboodaaGreat

namespace Go.Proofs.YtmhikkbdhboodaaGreat
open Go.RowKit Go.Maps
set_option linter.unusedVariables false
set_option linter.unusedSimpArgs false
variable {β:Type}

def iIns (x:Int × β):List (Int × β)→List (Int × β)
 | []=>[x]
 | y :: r=>if x.1<y.1 then x :: y :: r else y :: iIns x r
def iDel (k:Int) (l:List (Int × β)):List (Int × β):=l.filter fun x => !(decide (x.1=k))
def iPut (k:Int) (v:β) (l:List (Int × β)):List (Int × β):=iIns (k,v) (iDel k l)
def iGet (k:Int) (l:List (Int × β)):Option β:=(l.find? fun x=>decide (x.1=k)).map (·.2)
/-- What such a map reads as. -/
def iE (f:β→Value) (x:Int × β):Lit × DataW Value:=(.int .i64 x.1,.held (f x.2))
def iD (f:β→Value) (m:List (Int × β)):DataW Value:=.map (m.map (iE f))

theorem iE_same (f:β→Value) (k:Int) (x:Int × β):(iE f x).1.sameKey (.int .i64 k)=decide (x.1=k):=by
 show decide (IntKind.i64=IntKind.i64∧x.1=k)=_
 simp
theorem iD_ins (f:β→Value) (x:Int × β):∀ m:List (Int × β),(iIns x m).map (iE f)=DataW.insert (iE f x) (m.map (iE f))
 | []=>rfl
 | y :: r=>by
  show _=if decide (x.1<y.1)=true then _ else _
  unfold iIns
  by_cases h:x.1<y.1
  ·rw[if_pos h,if_pos (by simpa using h)];rfl
  ·rw[if_neg h,if_neg (by simpa using h)]
   show _ :: (iIns x r).map (iE f)=_
   rw[iD_ins f x r]
theorem iD_filter (f:β→Value) (k:Int) (m:List (Int × β)):(m.map (iE f)).filter (fun p => !p.1.sameKey (.int .i64 k))=(iDel k m).map (iE f):=by
 unfold iDel
 rw[List.filter_map]
 congr 1
 refine List.filter_congr fun x _=>?_
 show(!(iE f x).1.sameKey (.int .i64 k))=_
 rw[iE_same]
theorem iD_del (f:β→Value) (k:Int) (m:List (Int × β)):(iD f m).del (.int .i64 k)=iD f (iDel k m):=by
 show DataW.map _=DataW.map _
 rw[iD_filter]
theorem iD_put (f:β→Value) (k:Int) (v:β) (m:List (Int × β)):(iD f m).put (.int .i64 k) (.held (f v))=iD f (iPut k v m):=by
 show DataW.map (DataW.insert _ _)=DataW.map _
 rw[iD_filter]
 unfold iPut
 rw[iD_ins]
 rfl
theorem iD_atKey (f:β→Value) (k:Int) (m:List (Int × β)) (z:DataW Value):(iD f m).atKey (.int .i64 k) z=((iGet k m).map fun v=>DataW.held (f v)).getD z:=by
 simp only[DataW.atKey,iD]
 rw[List.find?_map]
 have e:(fun p:Lit × DataW Value=>p.1.sameKey (.int .i64 k)) ∘ iE f=fun x=>decide (x.1=k):=funext fun x=>iE_same f k x
 rw[e]
 unfold iGet
 cases m.find? fun x=>decide (x.1=k) <;> rfl
theorem iD_size (f:β→Value) (m:List (Int × β)):Maps.size (iD f m)=m.length:=by show List.length _=_;simp

theorem iIns_len (x:Int × β):∀ l:List (Int × β),(iIns x l).length=l.length+1
 | []=>rfl
 | y :: r=>by
  unfold iIns
  split
  ·rfl
  ·simp[iIns_len x r]
theorem mem_iDel {k:Int} {y:Int × β} {l:List (Int × β)}:y ∈ iDel k l↔y ∈ l∧y.1≠k:=by simp[iDel]
theorem iGet_none {k:Int} {m:List (Int × β)}:iGet k m=none↔∀ x ∈ m,x.1≠k:=by
 unfold iGet
 rw[Option.map_eq_none_iff,List.find?_eq_none]
 simp
theorem iGet_mem {k:Int} {m:List (Int × β)} {v:β} (h:iGet k m=some v):(k,v) ∈ m:=by
 unfold iGet at h
 obtain⟨x,hx,rfl⟩:=Option.map_eq_some_iff.1 h
 have h1:=List.mem_of_find?_eq_some hx
 have h2:=List.find?_some hx
 have:x.1=k:=by simpa using h2
 rw[← this]
 exact h1
theorem iGet_cons (k:Int) (y:Int × β) (r:List (Int × β)):iGet k (y :: r)=if y.1=k then some y.2 else iGet k r:=by
 unfold iGet
 rw[List.find?_cons]
 by_cases h:y.1=k <;> simp[h]
theorem iGet_ins {k:Int} {x:Int × β}:∀ {l:List (Int × β)},(∀ y ∈ l,y.1≠x.1)→iGet k (iIns x l)=if x.1=k then some x.2 else iGet k l
 | [],_=>by rw[iIns,iGet_cons]
 | y :: r,h=>by
  unfold iIns
  split
  ·rw[iGet_cons]
  ·rw[iGet_cons,iGet_ins (fun z hz=>h z (List.mem_cons_of_mem _ hz)),iGet_cons]
   have:=h y (List.mem_cons_self ..)
   by_cases h1:y.1=k <;> by_cases h2:x.1=k <;> simp[h1,h2]
   exact absurd (h1.trans h2.symm) this
theorem iGet_del {k k':Int}:∀ {m:List (Int × β)},iGet k' (iDel k m)=if k'=k then none else iGet k' m
 | []=>by simp[iGet,iDel]
 | y :: r=>by
  have ih:=iGet_del (k:=k) (k':=k') (m:=r)
  unfold iDel at ih ⊢
  rw[List.filter_cons]
  by_cases h:y.1=k
  ·simp only[h,decide_true,Bool.not_true,Bool.false_eq_true,if_false]
   rw[ih,iGet_cons]
   by_cases h1:k'=k
   ·rw[if_pos h1,if_pos h1]
   ·rw[if_neg h1,if_neg h1,if_neg (fun e:y.1=k'=>h1 (e.symm.trans h))]
  ·simp only[h,decide_false,Bool.not_false,if_true]
   rw[iGet_cons,ih,iGet_cons]
   by_cases h1:y.1=k'
   ·rw[if_pos h1,if_pos h1,if_neg (fun e=>h (h1.trans e))]
   ·rw[if_neg h1,if_neg h1]
theorem iGet_put (k k':Int) (v:β) (m:List (Int × β)):iGet k' (iPut k v m)=if k=k' then some v else iGet k' m:=by
 unfold iPut
 rw[iGet_ins (fun y hy=>(mem_iDel.1 hy).2),iGet_del]
 by_cases h:k=k'
 ·simp[h]
 ·show(if k=k' then some v else if k'=k then none else iGet k' m)=_
  rw[if_neg h,if_neg h,if_neg (fun e=>h e.symm)]
theorem iDel_none {k:Int} {m:List (Int × β)} (h:iGet k m=none):iDel k m=m:=by
 unfold iDel
 rw[List.filter_eq_self]
 intro x hx
 simpa using(iGet_none.1 h) x hx
theorem iDel_len {k:Int}:∀ {m:List (Int × β)},(m.map (·.1)).Nodup→(iGet k m).isSome→(iDel k m).length+1=m.length
 | [],_,h=>by cases h
 | x :: r,hn,h=>by
  rw[List.map_cons,List.nodup_cons] at hn
  rw[iGet_cons] at h
  unfold iDel
  rw[List.filter_cons]
  by_cases e:x.1=k
  ·have:iGet k r=none:=iGet_none.2 fun y hy e2=>hn.1 (List.mem_map.2 ⟨y,hy,e2.trans e.symm⟩)
   have h2:=iDel_none this
   unfold iDel at h2
   simp[e,h2]
  ·rw[if_neg e] at h
   have:=iDel_len hn.2 h
   unfold iDel at this
   simp[e]
   omega
theorem iPut_len (k:Int) (v:β) {m:List (Int × β)} (hn:(m.map (·.1)).Nodup):(iPut k v m).length=if (iGet k m).isSome then m.length else m.length+1:=by
 unfold iPut
 rw[iIns_len]
 cases h:(iGet k m).isSome
 ·have:iGet k m=none:=by simpa using h
  rw[iDel_none this]
  simp
 ·have:=iDel_len hn h
  simp only[if_true]
  omega

section
variable {P:Program} {k t e:TypeId} {w:World} {b n:Nat} {f:β→Value} {m:List (Int × β)}
/-- The map in memory; as many are there as told. -/
def IMap (P:Program) (w:World) (k:TypeId) (b:Nat) (f:β→Value) (m:List (Int × β)):Prop:=w.ownsMap P k heldRd b m.length (iD f m)
theorem imap_tight (h:w.ownsMap P k heldRd b n (iD f m)):IMap P w k b f m:=by
 obtain⟨es,clock,hb,F,hs,hD⟩:=h
 refine⟨es,clock,hb,F,?_,hD⟩
 have:=congrArg Maps.size hD
 rw[iD_size] at this
 rw[this]
 simp[Maps.size,length_sorted]
theorem imap_nodup (h:IMap P w k b f m) (hk:P.underlying k=some (.int .i64)):(m.map (·.1)).Nodup:=by
 obtain⟨es,he,hp,_⟩:=World.ownsMap.canon h (int_keyed hk)
 have:m.map (iE f)=es:=by injection he
 subst this
 have hp':=List.pairwise_map.1 hp
 refine List.pairwise_map.2 (hp'.imp fun {p q} hb e=>?_)
 have hb':decide (p.1<q.1)=true:=hb
 rw[decide_eq_true_eq] at hb'
 omega
theorem imap_frame {w':World} (h:IMap P w k b f m) (hb:w'.heap[b]?=w.heap[b]?):IMap P w' k b f m:=by
 obtain⟨es,clock,hbb,r⟩:=h
 exact⟨es,clock,hb.trans hbb,r⟩
theorem imap_lt (h:IMap P w k b f m):b<w.heap.size:=by
 obtain⟨es,clock,hbb,r⟩:=h
 exact(Array.getElem?_eq_some_iff.1 hbb).1
theorem imap_look (h:IMap P w k b f m) (hk:P.underlying k=some (.int .i64)) (ht:P.underlying t=some (.map k e)) {z:Value} (hz:(zeroValue e).run P w=.ok z w) (i:Int) (hi:(Lit.int .i64 i).wf=true) :
  (Instr.lookup t (.map (some b)) (.int .i64 i) false).run P w=.ok (((iGet i m).map f).getD z) w:=by
 obtain⟨v,ps,hr,hv⟩:=World.ownsMap.lookup h (int_keyed hk) ht hz (zd:=.held z) (zp:=[]) rfl (key:=.int .i64 i) (kl:=.int .i64 i) (keyOf_int_mk hk hi)
 rw[iD_atKey] at hv
 rw[hr]
 have e1:DataW.held v=((iGet i m).map fun v=>DataW.held (f v)).getD (.held z):=(congrArg Prod.fst (Option.some.inj hv))
 congr 1
 cases hg:iGet i m with
 | none=>rw[hg] at e1;simpa using e1
 | some c=>rw[hg] at e1;simpa using e1
theorem imap_store (h:IMap P w k b f m) (hk:P.underlying k=some (.int .i64)) (ht:P.underlying t=some (.map k e)) (hn:m.length<maxLen) (i:Int) (hi:(Lit.int .i64 i).wf=true) (v:β) :
  ∃ w',(Instr.mapUpdate t (.map (some b)) (.int .i64 i) (f v)).run P w=.ok () w'∧IMap P w' k b f (iPut i v m)∧w.mapTurned w' b:=by
 obtain⟨w',h1,h2,h3⟩:=World.ownsMap.store h (int_keyed hk) ht hn (key:=.int .i64 i) (kl:=.int .i64 i) (val:=f v) (d:=.held (f v)) (ps:=[]) (keyOf_int_mk hk hi) rfl
 rw[iD_put] at h2
 exact⟨w',h1,imap_tight h2,h3⟩
theorem imap_made (w:World):IMap P (w.alloc (.map #[] 0)) k w.heap.size f []:=World.ownsMap_made w P k heldRd
end
end Go.Proofs.YtmhikkbdhboodaaGreat

namespace Go.Proofs.YtmhikkbdhboodaaGreat
open Go.RowKit Go.Maps
set_option linter.unusedVariables false
set_option linter.unusedSimpArgs false

structure Slot where
 key:Key
 val:Int
 prev:Int
 next:Int
structure Tb where
 room:Nat
 n:Nat
 sl:Nat→Slot
 free:List Nat
 ways:Nat→Nat
 first:Int
 last:Int
def Tb.W (t:Tb):Nat:=2*t.room+1
def upd {α:Type} (f:Nat→α) (k:Nat) (v:α):Nat→α:=fun x=>if x=k then v else f x
theorem upd_same {α:Type} (f:Nat→α) (k:Nat) (v:α):upd f k v k=v:=if_pos rfl
theorem upd_ne {α:Type} (f:Nat→α) {k x:Nat} (v:α) (h:x≠k):upd f k v x=f x:=if_neg h
/-- The first of a list, or what stands behind it. -/
def hdO:List Nat→Int→Int
 | [],n=>n
 | k :: _,_=>k
def lsO (p:Int):List Nat→Int
 | []=>p
 | k :: l=>lsO k l
/-- Places that are linked: p stands ahead of them, n behind. -/
def Seg (sl:Nat→Slot) (p:Int):List Nat→Int→Prop
 | [],_=>True
 | k :: o,n=>(sl k).prev=p∧(sl k).next=hdO o n∧Seg sl k o n
theorem hdO_append (a b:List Nat) (n:Int):hdO (a ++ b) n=hdO a (hdO b n):=by cases a <;> rfl
theorem lsO_append (p:Int) (a b:List Nat):lsO p (a ++ b)=lsO (lsO p a) b:=by
 induction a generalizing p with
 | nil=>rfl
 | cons k a ih=>exact ih _
theorem seg_append (sl:Nat→Slot) (a b:List Nat) (p n:Int):Seg sl p (a ++ b) n↔Seg sl p a (hdO b n)∧Seg sl (lsO p a) b n:=by
 induction a generalizing p with
 | nil=>simp[Seg,lsO]
 | cons k a ih =>
  show _∧(sl k).next=hdO (a ++ b) n∧Seg sl k (a ++ b) n↔(_∧_∧Seg sl k a _)∧_
  rw[ih,hdO_append]
  constructor
  ·rintro⟨h1,h2,h3,h4⟩;exact⟨⟨h1,h2,h3⟩,h4⟩
  ·rintro⟨⟨h1,h2,h3⟩,h4⟩;exact⟨h1,h2,h3,h4⟩
theorem seg_congr {sl sl':Nat→Slot} {o:List Nat} (p n:Int) (h:∀ k ∈ o,sl' k=sl k):Seg sl p o n→Seg sl' p o n:=by
 induction o generalizing p with
 | nil=>intro;trivial
 | cons k o ih =>
  rintro⟨h1,h2,h3⟩
  have:=h k (List.mem_cons_self ..)
  exact⟨by rw[this];exact h1,by rw[this];exact h2,ih k (fun x hx=>h x (List.mem_cons_of_mem _ hx)) h3⟩
/-- The last one's link. -/
theorem seg_next {sl:Nat→Slot} {a:List Nat} {x:Nat} {p n:Int} (m:Int) (hx:x ∉ a) (h:Seg sl p (a ++ [x]) n):Seg (upd sl x { sl x with next:=m }) p (a ++ [x]) m:=by
 rw[seg_append] at h ⊢
 refine⟨seg_congr _ _ (fun k hk=>upd_ne _ _ (fun e=>hx (e ▸ hk))) h.1,?_⟩
 obtain⟨h1,h2,h3⟩:=h.2
 exact⟨by rw[upd_same];exact h1,by rw[upd_same];rfl,trivial⟩
/-- The first one's link. -/
theorem seg_prev {sl:Nat→Slot} {b:List Nat} {x:Nat} {p n:Int} (m:Int) (hx:x ∉ b) (h:Seg sl p (x :: b) n):Seg (upd sl x { sl x with prev:=m }) m (x :: b) n:=by
 obtain⟨h1,h2,h3⟩:=h
 exact⟨by rw[upd_same],by rw[upd_same];exact h2,seg_congr _ _ (fun k hk=>upd_ne _ _ (fun e=>hx (e ▸ hk))) h3⟩
def setNext (sl:Nat→Slot) (k:Int) (m:Int):Nat→Slot:=if k<0 then sl else upd sl k.toNat { sl k.toNat with next:=m }
def setPrev (sl:Nat→Slot) (k:Int) (m:Int):Nat→Slot:=if k<0 then sl else upd sl k.toNat { sl k.toNat with prev:=m }
theorem lsO_snoc (p:Int) (a:List Nat) (x:Nat):lsO p (a ++ [x])=x:=by rw[lsO_append];rfl
theorem snoc_cases (a:List Nat):a=[]∨∃ a' x,a=a' ++ [x]:=by
 rcases List.eq_nil_or_concat a with h|⟨l,b,h⟩
 ·exact .inl h
 ·exact .inr ⟨l,b,by simpa using h⟩
theorem setNext_nat (sl:Nat→Slot) (x:Nat) (m:Int):setNext sl (x:Int) m=upd sl x { sl x with next:=m }:=by
 unfold setNext
 rw[if_neg (by omega),Int.toNat_natCast]
theorem setPrev_nat (sl:Nat→Slot) (x:Nat) (m:Int):setPrev sl (x:Int) m=upd sl x { sl x with prev:=m }:=by
 unfold setPrev
 rw[if_neg (by omega),Int.toNat_natCast]
/-- A segment whose last one is linked to another. -/
theorem seg_setNext {sl:Nat→Slot} {a:List Nat} {n:Int} (m:Int) (hn:a.Nodup) (h:Seg sl (-1) a n):Seg (setNext sl (lsO (-1) a) m) (-1) a m:=by
 rcases snoc_cases a with rfl|⟨a',x,rfl⟩
 ·trivial
 ·rw[lsO_snoc,setNext_nat]
  exact seg_next m (fun hx=>by rw[List.nodup_append] at hn;exact hn.2.2 x hx x (List.mem_singleton.2 rfl) rfl) h
theorem seg_setPrev {sl:Nat→Slot} {b:List Nat} {p:Int} (m:Int) (hn:b.Nodup) (h:Seg sl p b (-1)):Seg (setPrev sl (hdO b (-1)) m) m b (-1):=by
 cases b with
 | nil=>trivial
 | cons x b =>
  show Seg (setPrev sl (x:Int) m) m (x :: b) (-1)
  rw[setPrev_nat]
  exact seg_prev m (List.nodup_cons.1 hn).1 h
theorem setNext_ne {sl:Nat→Slot} {k:Int} (m:Int) {x:Nat} (h:k≠x):setNext sl k m x=sl x:=by
 unfold setNext
 by_cases hk:k<0
 ·rw[if_pos hk]
 ·rw[if_neg hk]
  exact upd_ne _ _ (by omega)
theorem setPrev_ne {sl:Nat→Slot} {k:Int} (m:Int) {x:Nat} (h:k≠x):setPrev sl k m x=sl x:=by
 unfold setPrev
 by_cases hk:k<0
 ·rw[if_pos hk]
 ·rw[if_neg hk]
  exact upd_ne _ _ (by omega)
theorem setNext_key (sl:Nat→Slot) (k m:Int) (x:Nat):(setNext sl k m x).key=(sl x).key∧(setNext sl k m x).val=(sl x).val:=by
 unfold setNext upd
 by_cases hk:k<0
 ·rw[if_pos hk];exact⟨rfl,rfl⟩
 ·rw[if_neg hk]
  dsimp only
  split
  ·next h=>subst h;exact⟨rfl,rfl⟩
  ·exact⟨rfl,rfl⟩
theorem setPrev_key (sl:Nat→Slot) (k m:Int) (x:Nat):(setPrev sl k m x).key=(sl x).key∧(setPrev sl k m x).val=(sl x).val:=by
 unfold setPrev upd
 by_cases hk:k<0
 ·rw[if_pos hk];exact⟨rfl,rfl⟩
 ·rw[if_neg hk]
  dsimp only
  split
  ·next h=>subst h;exact⟨rfl,rfl⟩
  ·exact⟨rfl,rfl⟩
theorem lsO_mem {p:Int} {a:List Nat} (x:Nat) (h:lsO p a=x) (hp:p<0):x ∈ a:=by
 rcases snoc_cases a with rfl|⟨a',y,rfl⟩
 ·simp only[lsO] at h;omega
 ·rw[lsO_snoc] at h
  have:y=x:=by omega
  subst this
  simp
theorem hdO_mem {n:Int} {a:List Nat} (x:Nat) (h:hdO a n=x) (hp:n<0):x ∈ a:=by
 cases a with
 | nil=>simp only[hdO] at h;omega
 | cons y a =>
  simp only[hdO] at h
  have:y=x:=by omega
  subst this
  simp
/-- What is cut out. -/
theorem cut_seg {sl:Nat→Slot} {a b:List Nat} {k:Nat} (hn:(a ++ k :: b).Nodup) (h:Seg sl (-1) (a ++ k :: b) (-1)) :
  (sl k).prev=lsO (-1) a∧(sl k).next=hdO b (-1)∧Seg (setPrev (setNext sl (lsO (-1) a) (hdO b (-1))) (hdO b (-1)) (lsO (-1) a)) (-1) (a ++ b) (-1):=by
 obtain⟨h1,h2,h3,h4⟩:=(seg_append sl a (k :: b) (-1) (-1)).1 h
 obtain⟨na,nkb,nab⟩:=List.nodup_append.1 hn
 have nb:=(List.nodup_cons.1 nkb).2
 refine⟨h2,h3,(seg_append _ _ _ _ _).2 ⟨?_,?_⟩⟩
 ·refine seg_congr _ _ (fun x hx=>setPrev_ne _ (fun e=>?_)) (seg_setNext _ na h1)
  exact nab x hx x (List.mem_cons_of_mem _ (hdO_mem x e (by omega))) rfl
 ·refine seg_setPrev _ nb (seg_congr _ _ (fun x hx=>setNext_ne _ (fun e=>?_)) h4)
  exact nab x (lsO_mem x e (by omega)) x (List.mem_cons_of_mem _ hx) rfl
theorem cut_first {a b:List Nat} {k:Nat}:(if lsO (-1) a = -1 then hdO b (-1) else hdO (a ++ k :: b) (-1))=hdO (a ++ b) (-1):=by
 rcases snoc_cases a with rfl|⟨a',x,rfl⟩
 ·rfl
 ·rw[lsO_snoc,if_neg (by omega)]
  cases a' <;> rfl
theorem cut_last {a b:List Nat} {k:Nat}:(if hdO b (-1) = -1 then lsO (-1) a else lsO (-1) (a ++ k :: b))=lsO (-1) (a ++ b):=by
 cases b with
 | nil=>simp[hdO]
 | cons x b =>
  show(if (x:Int) = -1 then _ else _)=_
  rw[if_neg (by omega),lsO_append,lsO_append]
  rfl
/-- What is laid behind all. -/
def laySl (sl:Nat→Slot) (last:Int) (k:Nat):Nat→Slot:=setNext (upd sl k { sl k with prev:=last,next := -1 }) last k
theorem lay_seg {sl:Nat→Slot} {o:List Nat} {k:Nat} (hn:o.Nodup) (hk:k ∉ o) (h:Seg sl (-1) o (-1)):Seg (laySl sl (lsO (-1) o) k) (-1) (o ++ [k]) (-1):=by
 unfold laySl
 refine(seg_append _ _ _ _ _).2 ⟨?_,?_⟩
 ·exact seg_setNext _ hn (seg_congr _ _ (fun x hx=>upd_ne _ _ (fun e=>hk (e ▸ hx))) h)
 ·have e:setNext (upd sl k { sl k with prev:=lsO (-1) o,next := -1 }) (lsO (-1) o) k k = { sl k with prev:=lsO (-1) o,next := -1 }:=by
   rw[setNext_ne _ (fun e=>hk (lsO_mem k e (by omega))),upd_same]
  exact⟨by rw[e],by rw[e];rfl,trivial⟩
theorem lay_first {o:List Nat} {k:Nat}:(if lsO (-1) o = -1 then(k:Int) else hdO o (-1))=hdO (o ++ [k]) (-1):=by
 rcases snoc_cases o with rfl|⟨a',x,rfl⟩
 ·rfl
 ·rw[lsO_snoc,if_neg (by omega)]
  cases a' <;> rfl

/-- More than there is room for cannot differ. -/
theorem nodup_len {l m:List Nat} (hl:l.Nodup) (hs:∀ x ∈ l,x ∈ m):l.length≤m.length:=by
 induction l generalizing m with
 | nil=>simp
 | cons x l ih =>
  have hx:=hs x (List.mem_cons_self ..)
  have hn:=List.nodup_cons.1 hl
  have h1:=ih (m:=m.erase x) hn.2 (fun y hy=>(List.mem_erase_of_ne (fun e=>by subst e;exact hn.1 hy)).2 (hs y (List.mem_cons_of_mem _ hy)))
  have h2:=List.length_erase_of_mem hx
  have h3:=List.length_pos_of_mem hx
  simp only[List.length_cons]
  omega
theorem mapNodup {f:Nat→Nat}:∀ {l:List Nat},l.Nodup→(∀ x ∈ l,∀ y ∈ l,f x=f y→x=y)→(l.map f).Nodup
 | [],_,_=>List.nodup_nil
 | x :: l,h,hf=>by
  have hn:=List.nodup_cons.1 h
  refine List.nodup_cons.2 ⟨fun hm=>?_,mapNodup hn.2 (fun a ha b hb=>hf a (List.mem_cons_of_mem _ ha) b (List.mem_cons_of_mem _ hb))⟩
  obtain⟨y,hy,e⟩:=List.mem_map.1 hm
  have:=hf y (List.mem_cons_of_mem _ hy) x (List.mem_cons_self ..) e
  exact hn.1 (this ▸ hy)
section
variable (H:Key→Nat)
/-- A place on the way of a key. -/
def Tb.at_ (t:Tb) (k:Key) (d:Nat):Nat:=(H k+d) % t.W
def Tb.Stop (t:Tb) (k:Key) (i:Nat):Prop:=t.ways i=0∨(t.sl (t.ways i - 1)).key=k
/-- Where the way to a key is, or would be. -/
def AtR (t:Tb) (k:Key) (i:Nat):Prop:=∃ d,d<t.W∧i=t.at_ H k d∧t.Stop k i∧∀ e,e<d→¬ t.Stop k (t.at_ H k e)
/-- The order, the places, the ways. -/
structure TI (t:Tb) (o:List Nat):Prop where
 room:t.n≤t.room
 nodup:o.Nodup
 fnodup:t.free.Nodup
 lt:∀ k ∈ o,k<t.n
 flt:∀ k ∈ t.free,k<t.n
 apart:∀ k ∈ o,k ∉ t.free
 len:o.length+t.free.length=t.n
 keys:∀ k ∈ o,∀ k' ∈ o,(t.sl k).key=(t.sl k').key→k=k'
 seg:Seg t.sl (-1) o (-1)
 first:t.first=hdO o (-1)
 last:t.last=lsO (-1) o
 way:∀ i,i<t.W→t.ways i=0∨∃ k ∈ o,t.ways i=k+1
 once:∀ i j,i<t.W→j<t.W→t.ways i≠0→t.ways i=t.ways j→i=j
 reach:∀ k ∈ o,∃ d,d<t.W∧t.ways (t.at_ H (t.sl k).key d)=k+1∧∀ e,e<d→t.ways (t.at_ H (t.sl k).key e)≠0
variable {H} {t:Tb} {o:List Nat}
theorem at_lt (t:Tb) (k:Key) (d:Nat):t.at_ H k d<t.W:=Nat.mod_lt _ (by unfold Tb.W;omega)
/-- All places are on the way. -/
theorem at_all (t:Tb) (k:Key) (i:Nat) (hi:i<t.W):∃ d,d<t.W∧t.at_ H k d=i:=by
 have hW:0<t.W:=by omega
 have hh:H k % t.W<t.W:=Nat.mod_lt _ hW
 refine⟨(i+(t.W - H k % t.W)) % t.W,Nat.mod_lt _ hW,?_⟩
 unfold Tb.at_
 rw[Nat.add_mod_mod,← Nat.mod_add_mod,show H k % t.W+(i+(t.W - H k % t.W))=i+t.W by omega,Nat.add_mod_right,Nat.mod_eq_of_lt hi]
theorem at_inj (t:Tb) (k:Key) {d e:Nat} (hd:d<t.W) (he:e<t.W) (h:t.at_ H k d=t.at_ H k e):d=e:=by
 unfold Tb.at_ at h
 have hW:0<t.W:=by omega
 have hh:H k % t.W<t.W:=Nat.mod_lt _ hW
 rw[← Nat.mod_add_mod,← Nat.mod_add_mod (H k) t.W e] at h
 have h1:∀ x,x<t.W→(H k % t.W+x) % t.W=if H k % t.W+x<t.W then H k % t.W+x else H k % t.W+x - t.W:=fun x hx=>by
  split
  ·next hc=>exact Nat.mod_eq_of_lt hc
  ·next hc=>rw[Nat.mod_eq_sub_mod (by omega),Nat.mod_eq_of_lt (by omega)]
 rw[h1 d hd,h1 e he] at h
 split at h <;> split at h <;> omega
/-- There is a way that is free. -/
theorem some_free (h:TI H t o):∃ i,i<t.W∧t.ways i=0:=by
 apply Classical.byContradiction
 intro hc
 have hc:∀ i,i<t.W→t.ways i≠0:=fun i hi e=>hc ⟨i,hi,e⟩
 have h1:=nodup_len (l:=(List.range t.W).map (fun i=>t.ways i - 1)) (m:=o) (mapNodup List.nodup_range (fun x hx y hy e=>by
  have hx:=List.mem_range.1 hx
  have hy:=List.mem_range.1 hy
  have:=hc x hx
  have:=hc y hy
  exact h.once x y hx hy (by omega) (by omega))) (fun x hx=>by
   obtain⟨i,hi,e⟩:=List.mem_map.1 hx
   have hi:=List.mem_range.1 hi
   rcases h.way i hi with h0|⟨k,hk,h1⟩
   ·exact absurd h0 (hc i hi)
   ·rw[← e,h1]
    exact hk)
 rw[List.length_map,List.length_range] at h1
 have:=h.len
 have:=h.room
 unfold Tb.W at h1
 omega
/-- The first that is so. -/
theorem first_so {p:Nat→Prop}:∀ n,(∃ d,d<n∧p d)→∃ d,d<n∧p d∧∀ e,e<d→¬ p e
 | 0,⟨d,h,_⟩=>absurd h (Nat.not_lt_zero _)
 | n + 1,h=>by
  by_cases hn:∃ d,d<n∧p d
  ·obtain⟨d,h1,h2,h3⟩:=first_so n hn
   exact⟨d,by omega,h2,h3⟩
  ·obtain ⟨d,h1,h2⟩:=h
   have:d=n:=by
    apply Classical.byContradiction
    intro hd
    exact hn ⟨d,by omega,h2⟩
   subst this
   exact⟨d,h1,h2,fun e he hp=>hn ⟨e,he,hp⟩⟩
theorem at_is (t:Tb) (k:Key) (h:∃ i,i<t.W∧t.Stop k i):∃ i,AtR H t k i:=by
 obtain⟨i,hi,hs⟩:=h
 obtain⟨d,hd,e⟩:=at_all (H:=H) t k i hi
 obtain⟨d,h1,h2,h3⟩:=first_so (p:=fun d=>t.Stop k (t.at_ H k d)) t.W ⟨d,hd,by rw[e];exact hs⟩
 exact⟨_,d,h1,rfl,h2,h3⟩
/-- A key that is there. -/
theorem at_there (h:TI H t o) {k:Nat} (hk:k ∈ o) {i:Nat} (ha:AtR H t (t.sl k).key i):t.ways i=k+1:=by
 obtain⟨d,h1,h2,h3⟩:=h.reach k hk
 obtain⟨e,h4,rfl,h5,h6⟩:=ha
 rcases Nat.lt_trichotomy d e with hh|hh|hh
 ·refine absurd ?_ (h6 d hh)
  exact .inr (by rw[h2];rfl)
 ·rw[← hh];exact h2
 ·have h7:=h3 e hh
  rcases h5 with h5|h5
  ·exact absurd h5 h7
  ·rcases h.way _ (at_lt t _ e) with h8|⟨k',hk',h8⟩
   ·exact absurd h8 h7
   ·rw[h8] at h5
    rw[h8,h.keys k' hk' k hk h5]
theorem at_not (h:TI H t o) {x:Key} (hk:∀ k ∈ o,(t.sl k).key≠x) {i:Nat} (ha:AtR H t x i):t.ways i=0:=by
 obtain⟨e,h4,rfl,h5,h6⟩:=ha
 rcases h5 with h5|h5
 ·exact h5
 ·rcases h.way _ (at_lt t _ e) with h8|⟨k',hk',h8⟩
  ·exact h8
  ·rw[h8] at h5
   exact absurd h5 (hk k' hk')
/-- The same but for the links. -/
theorem ti_links (h:TI H t o) {t':Tb} {o':List Nat} (hr:t'.room=t.room) (hn:t'.n=t.n) (hf:t'.free=t.free) (hw:t'.ways=t.ways) (hk:∀ k,(t'.sl k).key=(t.sl k).key)
  (hm:∀ k,k ∈ o'↔k ∈ o) (hd:o'.Nodup) (hl:o'.length=o.length) (hs:Seg t'.sl (-1) o' (-1)) (h1:t'.first=hdO o' (-1)) (h2:t'.last=lsO (-1) o'):TI H t' o':=by
 have hW:t'.W=t.W:=by unfold Tb.W;rw[hr]
 have ha:∀ k d,t'.at_ H k d=t.at_ H k d:=fun k d=>by unfold Tb.at_;rw[hW]
 refine ⟨by rw[hr,hn];exact h.room,hd,by rw[hf];exact h.fnodup,fun k hk=>by rw[hn];exact h.lt k ((hm k).1 hk),fun k hk=>by rw[hn];exact h.flt k (hf ▸ hk),fun k hk=>by rw[hf];exact h.apart k ((hm k).1 hk),by rw[hl,hf,hn];exact h.len,
  fun k hk1 k' hk2 e=>h.keys k ((hm k).1 hk1) k' ((hm k').1 hk2) (by rw[← hk,← hk];exact e),hs,h1,h2,fun i hi=>?_,fun i j hi hj=>?_,fun k hk1=>?_⟩
 ·rw[hw]
  rcases h.way i (hW ▸ hi) with h3|⟨k,hk,h3⟩
  ·exact .inl h3
  ·exact .inr ⟨k,(hm k).2 hk,h3⟩
 ·rw[hw];exact h.once i j (hW ▸ hi) (hW ▸ hj)
 ·obtain⟨d,h3,h4,h5⟩:=h.reach k ((hm k).1 hk1)
  refine⟨d,hW ▸ h3,by rw[hk,ha,hw];exact h4,fun e he=>by rw[hk,ha,hw];exact h5 e he⟩
/-- One is cut out of the order, and laid behind all. -/
def cutSl (sl:Nat→Slot) (k:Nat):Nat→Slot:=setPrev (setNext sl (sl k).prev (sl k).next) (sl k).next (sl k).prev
def cutFirst (t:Tb) (k:Nat):Int:=if (t.sl k).prev = -1 then(t.sl k).next else t.first
def cutLast (t:Tb) (k:Nat):Int:=if (t.sl k).next = -1 then(t.sl k).prev else t.last
def Tb.cut (t:Tb) (k:Nat):Tb := { t with sl:=cutSl t.sl k,first:=cutFirst t k,last:=cutLast t k }
def Tb.lay (t:Tb) (k:Nat):Tb := { t with sl:=laySl t.sl t.last k,first:=if t.last = -1 then(k:Int) else t.first,last:=k }
def Tb.touch (t:Tb) (k:Nat):Tb:=(t.cut k).lay k
theorem split_of {k:Nat} {o:List Nat} (h:k ∈ o):∃ a b,o=a ++ k :: b:=List.append_of_mem h
theorem erase_split {a b:List Nat} {k:Nat} (h:(a ++ k :: b).Nodup):(a ++ k :: b).erase k=a ++ b:=by
 have hka:k ∉ a:=fun hk=>(List.nodup_append.1 h).2.2 k hk k (List.mem_cons_self ..) rfl
 rw[List.erase_append_right _ hka,List.erase_cons_head]
theorem laySl_key (sl:Nat→Slot) (l:Int) (k x:Nat):(laySl sl l k x).key=(sl x).key∧(laySl sl l k x).val=(sl x).val:=by
 unfold laySl
 have h:=setNext_key (upd sl k { sl k with prev:=l,next := -1 }) l k x
 rw[h.1,h.2]
 unfold upd
 split
 ·next h=>subst h;exact⟨rfl,rfl⟩
 ·exact⟨rfl,rfl⟩
theorem cutSl_key (sl:Nat→Slot) (k x:Nat):(cutSl sl k x).key=(sl x).key∧(cutSl sl k x).val=(sl x).val:=by
 unfold cutSl
 have h1:=setPrev_key (setNext sl (sl k).prev (sl k).next) (sl k).next (sl k).prev x
 have h2:=setNext_key sl (sl k).prev (sl k).next x
 exact⟨h1.1.trans h2.1,h1.2.trans h2.2⟩
theorem ti_cut (h:TI H t o) {k:Nat} (hk:k ∈ o):Seg (t.cut k).sl (-1) (o.erase k) (-1)∧(t.cut k).first=hdO (o.erase k) (-1)∧(t.cut k).last=lsO (-1) (o.erase k):=by
 obtain⟨a,b,rfl⟩:=split_of hk
 obtain⟨h1,h2,h3⟩:=cut_seg h.nodup h.seg
 rw[erase_split h.nodup]
 refine⟨?_,?_,?_⟩
 ·show Seg (cutSl t.sl k) (-1) (a ++ b) (-1)
  unfold cutSl
  rw[h1,h2];exact h3
 ·show cutFirst t k=_
  unfold cutFirst
  rw[h1,h2,h.first];exact cut_first
 ·show cutLast t k=_
  unfold cutLast
  rw[h1,h2,h.last];exact cut_last
theorem ti_touch (h:TI H t o) {k:Nat} (hk:k ∈ o):TI H (t.touch k) (o.erase k ++ [k]):=by
 obtain⟨h1,h2,h3⟩:=ti_cut h hk
 have hd:(o.erase k).Nodup:=h.nodup.erase k
 have hne:k ∉ o.erase k:=fun hm=>(List.Nodup.mem_erase_iff h.nodup).1 hm |>.1 rfl
 refine ti_links h rfl rfl rfl rfl (fun x=>(laySl_key _ _ _ _).1.trans (cutSl_key _ _ _).1) (fun x=>?_) ?_ ?_ ?_ ?_ ?_
 ·rw [List.mem_append,List.mem_singleton,List.Nodup.mem_erase_iff h.nodup]
  constructor
  ·rintro(h|rfl)
   ·exact h.2
   ·exact hk
  ·intro hx
   by_cases e:x=k
   ·exact .inr e
   ·exact .inl ⟨e,hx⟩
 ·refine List.nodup_append.2 ⟨hd,List.nodup_cons.2 ⟨List.not_mem_nil,List.nodup_nil⟩,fun x hx y hy e=>?_⟩
  rw[List.mem_singleton] at hy
  subst hy
  subst e
  exact hne hx
 ·rw[List.length_append,List.length_erase_of_mem hk]
  have:=List.length_pos_of_mem hk
  show _+1=_
  omega
 ·show Seg (laySl (t.cut k).sl (t.cut k).last k) (-1) _ (-1)
  rw[h3];exact lay_seg hd hne h1
 ·show(if (t.cut k).last = -1 then(k:Int) else(t.cut k).first)=_
  rw[h3,h2];exact lay_first
 ·show(k:Int)=_
  rw[lsO_snoc]
/-- A value is another. -/
def Tb.setVal (t:Tb) (k:Nat) (v:Int):Tb := { t with sl:=upd t.sl k { t.sl k with val:=v } }
theorem ti_val (h:TI H t o) (k:Nat) (v:Int):TI H (t.setVal k v) o:=by
 have e:∀ x,((t.setVal k v).sl x).key=(t.sl x).key∧((t.setVal k v).sl x).prev=(t.sl x).prev∧((t.setVal k v).sl x).next=(t.sl x).next:=fun x=>by
  unfold Tb.setVal upd
  dsimp only
  split
  ·next h=>subst h;exact⟨rfl,rfl,rfl⟩
  ·exact⟨rfl,rfl,rfl⟩
 refine ti_links h rfl rfl rfl rfl (fun x=>(e x).1) (fun x=>Iff.rfl) h.nodup rfl ?_ h.first h.last
 have:∀ (o:List Nat) (p n:Int),Seg t.sl p o n→Seg (t.setVal k v).sl p o n:=fun o=>by
  induction o with
  | nil=>intros;trivial
  | cons x o ih=>rintro p n ⟨h1,h2,h3⟩;exact⟨(e x).2.1.trans h1,(e x).2.2.trans h2,ih _ _ h3⟩
 exact this _ _ _ h.seg
/-- A key that was not there. -/
def Tb.new (t:Tb) (k i:Nat) (x:Key) (v:Int) (free:List Nat) (n:Nat):Tb :=
 Tb.lay { t with n:=n,free:=free,ways:=upd t.ways i (k+1),sl:=upd t.sl k ⟨x,v,0,0⟩ } k
theorem ti_new (h:TI H t o) {k i n:Nat} {x:Key} {v:Int} {free:List Nat} (ha:AtR H t x i) (hx:∀ k ∈ o,(t.sl k).key≠x) (hk:k ∉ o) (hkn:k<n) (hn:n≤t.room) (hnn:t.n≤n)
  (hf:free.Nodup) (hff:∀ y ∈ free,y ∈ t.free∧y≠k) (hl:o.length+1+free.length=n):TI H (t.new k i x v free n) (o ++ [k]):=by
 have h0:=at_not h hx ha
 obtain⟨d,h1,h2,h3,h4⟩:=ha
 have hi:i<t.W:=h2 ▸ at_lt t x d
 have hkey:∀ y,((t.new k i x v free n).sl y).key=if y=k then x else(t.sl y).key:=fun y=>by
  refine(laySl_key _ _ _ _).1.trans ?_
  show(upd t.sl k ⟨x,v,0,0⟩ y).key=_
  unfold upd
  split <;> rfl
 have hko:∀ y ∈ o,((t.new k i x v free n).sl y).key=(t.sl y).key:=fun y hy=>by rw[hkey,if_neg (fun e=>hk (by rw[← e];exact hy))]
 have hw:∀ j,(t.new k i x v free n).ways j=if j=i then k+1 else t.ways j:=fun j=>rfl
 have hmem:∀ y,y ∈ o ++ [k]↔y ∈ o∨y=k:=fun y=>by simp
 refine⟨hn,?_,hf,fun y hy=>?_,fun y hy=>Nat.lt_of_lt_of_le (h.flt y (hff y hy).1) hnn,fun y hy hy2=>?_,?_,fun y hy z hz e=>?_,?_,?_,?_,fun j hj=>?_,fun j j' hj hj' h5 h6=>?_,fun y hy=>?_⟩
 ·refine List.nodup_append.2 ⟨h.nodup,List.nodup_cons.2 ⟨List.not_mem_nil,List.nodup_nil⟩,fun x hx y hy e=>?_⟩
  rw[List.mem_singleton] at hy
  subst hy
  subst e
  exact hk hx
 ·rcases(hmem y).1 hy with hy|rfl
  ·exact Nat.lt_of_lt_of_le (h.lt y hy) hnn
  ·exact hkn
 ·rcases(hmem y).1 hy with hy|rfl
  ·exact h.apart y hy (hff y hy2).1
  ·exact(hff y hy2).2 rfl
 ·rw[List.length_append];exact hl
 ·rcases(hmem y).1 hy with a1|a1 <;> rcases(hmem z).1 hz with a2|a2
  ·rw[hko y a1,hko z a2] at e;exact h.keys y a1 z a2 e
  ·rw[hko y a1,hkey z,if_pos a2] at e;exact absurd e (hx y a1)
  ·rw[hko z a2,hkey y,if_pos a1] at e;exact absurd e.symm (hx z a2)
  ·rw[a1,a2]
 ·show Seg (laySl _ t.last k) (-1) _ (-1)
  rw[h.last]
  exact lay_seg h.nodup hk (seg_congr _ _ (fun y hy=>upd_ne _ _ (fun e=>hk (e ▸ hy))) h.seg)
 ·show(if t.last = -1 then(k:Int) else t.first)=_
  rw[h.last,h.first];exact lay_first
 ·show(k:Int)=_
  rw[lsO_snoc]
 ·rw [hw]
  split
  ·exact .inr ⟨k,by simp,rfl⟩
  ·rcases h.way j hj with h5|⟨y,hy,h5⟩
   ·exact .inl h5
   ·exact .inr ⟨y,by simp[hy],h5⟩
 ·rw [hw,hw] at h6
  rw[hw] at h5
  by_cases e1:j=i <;> by_cases e2:j'=i
  ·rw[e1,e2]
  ·rw[if_pos e1,if_neg e2] at h6
   rcases h.way j' hj' with h7|⟨y,hy,h7⟩
   ·omega
   ·exact absurd hy (by rw[show y=k by omega];exact hk)
  ·rw[if_neg e1,if_pos e2] at h6
   rcases h.way j hj with h7|⟨y,hy,h7⟩
   ·omega
   ·exact absurd hy (by rw[show y=k by omega];exact hk)
  ·rw[if_neg e1] at h5 h6
   rw[if_neg e2] at h6
   exact h.once j j' hj hj' h5 h6
 ·rcases (hmem y).1 hy with hy|rfl
  ·obtain ⟨d',h5,h6,h7⟩:=h.reach y hy
   rw[hko y hy]
   refine⟨d',h5,?_,fun e he=>?_⟩
   ·rw [hw,if_neg]
    ·exact h6
    ·intro e
     have h6:t.ways (t.at_ H (t.sl y).key d')=y+1:=h6
     rw[show t.at_ H (t.sl y).key d'=i from e,h0] at h6
     omega
   ·rw[hw]
    split
    ·omega
    ·exact h7 e he
  ·rw [hkey,if_pos rfl]
   refine⟨d,h1,?_,fun e he=>?_⟩
   ·show(if t.at_ H x d=i then _ else _)=_
    rw[if_pos h2.symm]
   ·rw [hw]
    split
    ·omega
    ·intro h8
     exact h4 e he (.inl h8)
/-- How far a place stands behind another. -/
theorem at_step (t:Tb) (x:Key) (e s:Nat):t.at_ H x (e+s)=(t.at_ H x e+s) % t.W:=by
 unfold Tb.at_
 rw[Nat.mod_add_mod,Nat.add_assoc]
theorem mod_in {a W:Nat} (h:a<2*W):a % W=if a<W then a else a - W:=by
 split
 ·next hc=>exact Nat.mod_eq_of_lt hc
 ·next hc=>rw[Nat.mod_eq_sub_mod (by omega),Nat.mod_eq_of_lt (by omega)]
/-- A row of ways behind a hole: those at distances d .. f - 1 are still to be laid anew. -/
structure DI (H:Key→Nat) (t:Tb) (o:List Nat) (i f d:Nat):Prop where
 i_lt:i<t.W
 d1:1≤d
 df:d≤f
 f_lt:f<t.W
 none:t.ways ((i+f) % t.W)=0
 some:∀ x,d≤x→x<f→t.ways ((i+x) % t.W)≠0
 keys:∀ k ∈ o,∀ k' ∈ o,(t.sl k).key=(t.sl k').key→k=k'
 way:∀ i,i<t.W→t.ways i=0∨∃ k ∈ o,t.ways i=k+1
 once:∀ i j,i<t.W→j<t.W→t.ways i≠0→t.ways i=t.ways j→i=j
 reach:∀ k ∈ o,∃ c,c<t.W∧t.ways (t.at_ H (t.sl k).key c)=k+1∧(∀ e,e<c→t.ways (t.at_ H (t.sl k).key e)=0→∃ y,y<d∧t.at_ H (t.sl k).key e=(i+y) % t.W) ∧
  ((∀ y,d≤y→y<f→t.at_ H (t.sl k).key c≠(i+y) % t.W)→∀ e,e<c→t.ways (t.at_ H (t.sl k).key e)≠0)
/-- Who comes by a place of the row, and stands outside of what is to be laid anew, comes by its end. -/
theorem by_end (t:Tb) (x:Key) {i f d e c:Nat} (hi:i<t.W) (hd:d<f) (hf:f<t.W) (hec:e<c) (hc:c<t.W) (h1:t.at_ H x e=(i+d) % t.W)
  (h2:∀ y,d<y→y<f→t.at_ H x c≠(i+y) % t.W) (h3:t.at_ H x c≠(i+f) % t.W):∃ e',e'<c∧t.at_ H x e'=(i+f) % t.W:=by
 have hs:t.at_ H x (e+(f - d))=(i+f) % t.W:=by
  rw[at_step,h1,Nat.mod_add_mod,show i+d+(f - d)=i+f by omega]
 refine⟨e+(f - d),?_,hs⟩
 apply Classical.byContradiction
 intro hcc
 obtain⟨s,rfl⟩:∃ s,c=e+s:=⟨c - e,by omega⟩
 have h4:t.at_ H x (e+s)=(i+(d+s)) % t.W:=by
  rw[at_step,h1,Nat.mod_add_mod,Nat.add_assoc]
 by_cases h5:d+s=f
 ·exact h3 (by rw[h4,h5])
 ·exact h2 (d+s) (by omega) (by omega) h4
theorem off_inj {W i x y:Nat} (hi:i<W) (hx:x<W) (hy:y<W) (h:(i+x) % W=(i+y) % W):x=y:=by
 rw[mod_in (by omega),mod_in (by omega)] at h
 split at h <;> split at h <;> omega
/-- The hole is made. -/
theorem di_start (h:TI H t o) {k i:Nat} (hk:k ∈ o) (hi:i<t.W) (hw:t.ways i=k+1) {t':Tb} {o':List Nat} (hr:t'.room=t.room) (hww:t'.ways=upd t.ways i 0)
  (ho:∀ x,x ∈ o'↔x ∈ o∧x≠k) (hkk:∀ x ∈ o',(t'.sl x).key=(t.sl x).key):∃ f,DI H t' o' i f 1:=by
 have hW:t'.W=t.W:=by unfold Tb.W;rw[hr]
 have ha:∀ k d,t'.at_ H k d=t.at_ H k d:=fun k d=>by unfold Tb.at_;rw[hW]
 obtain⟨z,hz,hz0⟩:=some_free h
 have hzi:z≠i:=fun e=>by rw[e,hw] at hz0;omega
 have hex:∃ d,d<t.W∧(1≤d∧t.ways ((i+d) % t.W)=0):=by
  refine⟨(z+t.W - i) % t.W,Nat.mod_lt _ (by omega),?_,?_⟩
  ·rw[mod_in (by omega)];split <;> omega
  ·rw[Nat.add_mod_mod,show i+(z+t.W - i)=z+t.W by omega,Nat.add_mod_right,Nat.mod_eq_of_lt hz];exact hz0
 obtain⟨f,hf,⟨hf1,hf0⟩,hff⟩:=first_so t.W hex
 have hne:∀ y,1≤y→y<t.W→(i+y) % t.W≠i:=fun y h1 h2=>by rw[mod_in (by omega)];split <;> omega
 refine⟨f,hW ▸ hi,Nat.le_refl _,hf1,hW ▸ hf,?_,fun x h1 h2=>?_,fun x hx y hy e=>?_,fun j hj=>?_,fun j j' hj hj' h1 h2=>?_,fun x hx=>?_⟩
 ·rw[hW,hww,upd_ne _ _ (hne f hf1 hf)];exact hf0
 ·rw[hW,hww,upd_ne _ _ (hne x h1 (by omega))]
  exact fun e=>hff x h2 ⟨h1,e⟩
 ·rw[hkk x hx,hkk y hy] at e
  exact h.keys x ((ho x).1 hx).1 y ((ho y).1 hy).1 e
 ·rw [hW] at hj
  rw[hww]
  unfold upd
  split
  ·exact .inl rfl
  ·next hji =>
   rcases h.way j hj with h1|⟨x,hx,h1⟩
   ·exact .inl h1
   ·exact .inr ⟨x,(ho x).2 ⟨hx,fun e=>hji (h.once j i hj hi (by omega) (by omega))⟩,h1⟩
 ·rw[hW] at hj hj'
  rw[hww] at h1 h2
  unfold upd at h1 h2
  by_cases e1:j=i <;> by_cases e2:j'=i
  ·rw[e1,e2]
  ·rw[if_pos e1] at h1;exact absurd rfl h1
  ·rw[if_neg e1] at h1 h2;rw[if_pos e2] at h2;exact absurd h2 h1
  ·rw[if_neg e1] at h1 h2;rw[if_neg e2] at h2;exact h.once j j' hj hj' h1 h2
 ·have hxo:=(ho x).1 hx
  obtain⟨c,h1,h2,h3⟩:=h.reach x hxo.1
  have hci:t.at_ H (t.sl x).key c≠i:=fun e=>by rw[e,hw] at h2;exact hxo.2 (by omega)
  rw[hkk x hx]
  refine⟨c,hW ▸ h1,by rw[ha,hww,upd_ne _ _ hci];exact h2,fun e he h4=>?_,fun hout e he h4=>?_⟩
  ·rw [ha,hww] at h4
   by_cases e1:t.at_ H (t.sl x).key e=i
   ·exact⟨0,by omega,by rw[ha,hW,e1,Nat.add_zero,Nat.mod_eq_of_lt hi]⟩
   ·rw[upd_ne _ _ e1] at h4
    exact absurd h4 (h3 e he)
  ·rw [ha,hww] at h4
   have e1:t.at_ H (t.sl x).key e=i:=by
    apply Classical.byContradiction
    intro e1
    rw[upd_ne _ _ e1] at h4
    exact h3 e he h4
   obtain⟨e',h5,h6⟩:=by_end (H:=H) t (t.sl x).key (d:=0) hi (by omega) hf he h1 (by rw[e1,Nat.add_zero,Nat.mod_eq_of_lt hi]) (fun y hy1 hy2 hy3=>hout y hy1 hy2 (by rw[ha,hW];exact hy3)) (fun h7=>by rw[h7,hf0] at h2;omega)
   exact h3 e' h5 (by rw[h6];exact hf0)
/-- One more of the row is laid anew. -/
theorem di_round {i f d:Nat} (h:DI H t o i f d) (hd:d<f) {m q:Nat} (hm:t.ways ((i+d) % t.W)=m+1) {t1 t2:Tb} (h1r:t1.room=t.room) (h1s:t1.sl=t.sl) (h1w:t1.ways=upd t.ways ((i+d) % t.W) 0)
  (hq:AtR H t1 (t.sl m).key q) (h2r:t2.room=t.room) (h2s:t2.sl=t.sl) (h2w:t2.ways=upd t1.ways q (m+1)):DI H t2 o i f (d+1):=by
 have hW1:t1.W=t.W:=by unfold Tb.W;rw[h1r]
 have hW:t2.W=t.W:=by unfold Tb.W;rw[h2r]
 have ha1:∀ k d,t1.at_ H k d=t.at_ H k d:=fun k d=>by unfold Tb.at_;rw[hW1]
 have ha:∀ k d,t2.at_ H k d=t.at_ H k d:=fun k d=>by unfold Tb.at_;rw[hW]
 have hi:=h.i_lt
 have hdW:d<t.W:=Nat.lt_trans hd h.f_lt
 have hJ:(i+d) % t.W<t.W:=Nat.mod_lt _ (by omega)
 generalize hj:(i+d) % t.W=j at *
 have hmo:m ∈ o:=by
  rcases h.way j hJ with h0|⟨k,hk,h0⟩
  ·omega
  ·rwa [show m=k by omega]
 -- where it comes to stand
 obtain⟨c',hc',hq2,hst,hbef⟩:=hq
 rw[hW1] at hc'
 rw[ha1] at hq2
 have hqW:q<t.W:=hq2 ▸ at_lt t _ _
 have hq0:t1.ways q=0:=by
  rcases hst with h0|h0
  ·exact h0
  ·rw [h1w] at h0 ⊢
   unfold upd at h0 ⊢
   split
   ·rfl
   ·next hqj =>
    rw[if_neg hqj,h1s] at h0
    rcases h.way q hqW with h5|⟨k,hk,h5⟩
    ·exact h5
    ·rw[h5] at h0
     have:=h.keys k hk m hmo h0
     subst this
     exact absurd (h.once q j hqW hJ (by omega) (by omega)) hqj
 obtain⟨c,hc,hcw,hcz,-⟩:=h.reach m hmo
 have hcj:t.at_ H (t.sl m).key c=j:=h.once _ _ (at_lt t _ _) hJ (by omega) (by omega)
 have hcc:c'≤c:=by
  apply Classical.byContradiction
  intro hlt
  refine hbef c (by omega) (.inl ?_)
  rw[ha1,hcj,h1w,upd_same]
 have hqoff:∃ y,y<d+1∧q=(i+y) % t.W:=by
  rcases Nat.lt_or_eq_of_le hcc with hlt|he
  ·have hqj:q≠j:=fun e=>by
    have:=at_inj (H:=H) t (t.sl m).key hc hc' (by rw[hcj,← hq2,e])
    omega
   have hz:t.ways (t.at_ H (t.sl m).key c')=0:=by rw[← hq2];rw[h1w,upd_ne _ _ hqj] at hq0;exact hq0
   obtain⟨y,hy,e⟩:=hcz c' hlt hz
   exact⟨y,by omega,by rw[hq2];exact e⟩
  ·exact⟨d,by omega,by rw[hq2,he,hcj,hj]⟩
 have hqold:q=j∨t.ways q=0:=by
  by_cases e:q=j
  ·exact .inl e
  ·exact .inr (by rw[h1w,upd_ne _ _ e] at hq0;exact hq0)
 have hw2:∀ p,t2.ways p=if p=q then m+1 else if p=j then 0 else t.ways p:=fun p=>by
  rw[h2w,h1w];rfl
 have hkeep:∀ p k,p<t.W→t.ways p=k+1→k≠m→t2.ways p=k+1:=fun p k hp h0 hkm=>by
  rw[hw2,if_neg,if_neg]
  ·exact h0
  ·intro e;rw[e,hm] at h0;omega
  ·intro e
   rcases hqold with e2|e2
   ·rw[e,e2,hm] at h0;omega
   ·rw[e,e2] at h0;omega
 obtain⟨yq,hyq,hyq2⟩:=hqoff
 have hfar:∀ y,d<y→y<t.W→(i+y) % t.W≠q∧(i+y) % t.W≠j:=fun y hy1 hy2 =>
  ⟨fun e=>by have:=off_inj hi hy2 (show yq<t.W by omega) (by rw[e,hyq2]);omega,fun e=>by have:=off_inj hi hy2 hdW (by rw[e,hj]);omega⟩
 refine⟨hW ▸ hi,by omega,hd,hW ▸ h.f_lt,?_,fun x h1 h2=>?_,fun x hx y hy e=>?_,fun p hp=>?_,fun p p' hp hp' h1 h2=>?_,fun x hx=>?_⟩
 ·rw[hW,hw2,if_neg (hfar f hd h.f_lt).1,if_neg (hfar f hd h.f_lt).2];exact h.none
 ·have:=h.f_lt
  rw[hW,hw2,if_neg (hfar x (by omega) (by omega)).1,if_neg (hfar x (by omega) (by omega)).2];exact h.some x (by omega) h2
 ·rw[h2s] at e;exact h.keys x hx y hy e
 ·rw [hw2]
  split
  ·exact .inr ⟨m,hmo,rfl⟩
  ·split
   ·exact .inl rfl
   ·exact h.way p (hW ▸ hp)
 ·rw [hW] at hp hp'
  rw[hw2] at h1 h2
  rw[hw2] at h2
  have hother:∀ p,p<t.W→p≠q→p≠j→t.ways p≠m+1:=fun p hp _ hpj e=>hpj (h.once p j hp hJ (by omega) (by omega))
  by_cases e1:p=q <;> by_cases e2:p'=q
  ·rw[e1,e2]
  ·rw[if_pos e1,if_neg e2] at h2
   split at h2
   ·omega
   ·next e3=>exact absurd h2.symm (hother p' hp' e2 e3)
  ·rw[if_neg e1,if_pos e2] at h2
   split at h2
   ·omega
   ·next e3=>exact absurd h2 (hother p hp e1 e3)
  ·rw[if_neg e1] at h1 h2
   rw[if_neg e2] at h2
   by_cases e3:p=j <;> by_cases e4:p'=j
   ·rw[e3,e4]
   ·rw[if_pos e3] at h1;exact absurd rfl h1
   ·rw[if_neg e3] at h1 h2;rw[if_pos e4] at h2;exact absurd h2 h1
   ·rw[if_neg e3] at h1 h2;rw[if_neg e4] at h2;exact h.once p p' hp hp' h1 h2
 ·rw [h2s]
  by_cases hxm:x=m
  ·subst hxm
   have hnz:∀ e,e<c'→t2.ways (t2.at_ H (t.sl x).key e)≠0:=fun e he h0=>by
    rw[ha,hw2] at h0
    split at h0
    ·omega
    ·refine hbef e he (.inl ?_)
     rw[ha1,h1w]
     exact h0
   exact⟨c',hW ▸ hc',by rw[ha,← hq2,hw2,if_pos rfl],fun e he h0=>absurd h0 (hnz e he),fun _ e he=>hnz e he⟩
  ·obtain ⟨b,hb,hbw,hbz,hbo⟩:=h.reach x hx
   have hbp:=at_lt (H:=H) t (t.sl x).key b
   refine⟨b,hW ▸ hb,by rw[ha];exact hkeep _ _ hbp hbw hxm,fun e he h0=>?_,fun hout e he h0=>?_⟩
   ·rw [ha,hw2] at h0
    rw[ha,hW]
    split at h0
    ·omega
    ·split at h0
     ·next e1=>exact⟨d,by omega,by rw[e1,hj]⟩
     ·obtain⟨y,hy,e1⟩:=hbz e he h0
      exact⟨y,by omega,e1⟩
   ·rw [ha] at h0
    have hnj:t.at_ H (t.sl x).key b≠j:=fun e1=>by rw[e1,hm] at hbw;omega
    have hout2:∀ y,d≤y→y<f→t.at_ H (t.sl x).key b≠(i+y) % t.W:=fun y hy1 hy2=>by
     by_cases hyd:y=d
     ·rw[hyd,hj];exact hnj
     ·have:=hout y (by omega) hy2
      rw[ha,hW] at this
      exact this
    have hz:=hbo hout2
    rw[hw2] at h0
    split at h0
    ·omega
    ·split at h0
     ·next e1 =>
      obtain⟨e',h5,h6⟩:=by_end (H:=H) t (t.sl x).key hi hd h.f_lt he hb (by rw[e1,hj]) (fun y hy1 hy2=>hout2 y (by omega) hy2) (fun h7=>by rw[h7,h.none] at hbw;omega)
      exact hz e' h5 (by rw[h6];exact h.none)
     ·exact hz e he h0
/-- All are laid anew. -/
theorem di_end {i f:Nat} (h:DI H t o i f f) (hr:t.n≤t.room) (hn:o.Nodup) (hfn:t.free.Nodup) (hlt:∀ k ∈ o,k<t.n) (hflt:∀ k ∈ t.free,k<t.n) (hap:∀ k ∈ o,k ∉ t.free) (hlen:o.length+t.free.length=t.n)
  (hs:Seg t.sl (-1) o (-1)) (h1:t.first=hdO o (-1)) (h2:t.last=lsO (-1) o):TI H t o :=
 ⟨hr,hn,hfn,hlt,hflt,hap,hlen,h.keys,hs,h1,h2,h.way,h.once,fun k hk=>by
  obtain⟨c,h3,h4,-,h6⟩:=h.reach k hk
  exact⟨c,h3,h4,h6 (fun y hy1 hy2=>by omega)⟩⟩
end
end Go.Proofs.YtmhikkbdhboodaaGreat

namespace Go.Proofs.YtmhikkbdhboodaaGreat
open Go.RowKit Go.Maps
set_option linter.unusedVariables false
set_option linter.unusedSimpArgs false

def ktx (k:Key):ByteArray:=⟨k.toArray⟩
theorem ktx_list (k:Key):(ktx k).data.toList=k:=by unfold ktx;simp
theorem ktx_data (s:ByteArray):ktx s.data.toList=s:=by unfold ktx;simp
def scell (s:Slot):List Value:=[.string (ktx s.key),.int .i64 s.val,.int .i64 s.prev,.int .i64 s.next]
def srow (sl:Nat→Slot):Nat→List Value
 | 0=>[]
 | n+1=>srow sl n ++ scell (sl n)
theorem srow_len (sl:Nat→Slot):∀ n,(srow sl n).length=n*4
 | 0=>rfl
 | n+1=>by show(srow sl n ++ scell (sl n)).length=_;rw[List.length_append,srow_len sl n,show(scell (sl n)).length=4 from rfl];omega
theorem srow_get (sl:Nat→Slot) (i k:Nat) (hk:k<4):∀ n,i<n→(srow sl n)[i*4+k]?=(scell (sl i))[k]?
 | 0,h=>absurd h (Nat.not_lt_zero _)
 | n + 1,h=>by
  show(srow sl n ++ scell (sl n))[i*4+k]?=_
  by_cases hi:i<n
  ·rw[List.getElem?_append_left (by rw[srow_len];omega)]
   exact srow_get sl i k hk n hi
  ·have:i=n:=by omega
   subst this
   rw[List.getElem?_append_right (by rw[srow_len];omega),srow_len,show i*4+k - i*4=k by omega]
theorem srow_ext {sl:Nat→Slot} {n:Nat} {l:List Value} (hl:l.length=n*4) (h:∀ i k,i<n→k<4→l[i*4+k]?=(scell (sl i))[k]?):l=srow sl n:=by
 apply List.ext_getElem?
 intro j
 by_cases hj:j<n*4
 ·have e:j=j / 4*4+j % 4:=by omega
  rw[e,h (j / 4) (j % 4) (by omega) (Nat.mod_lt _ (by omega)),srow_get sl (j / 4) (j % 4) (Nat.mod_lt _ (by omega)) n (by omega)]
 ·rw[List.getElem?_eq_none (by omega),List.getElem?_eq_none (by rw[srow_len];omega)]
/-- One cell of one place is another. -/
theorem srow_set {sl:Nat→Slot} {n i k:Nat} {s:Slot} {u:Value} (hi:i<n) (hk:k<4) (h:(scell (sl i)).set k u=scell s):(srow sl n).set (i*4+k) u=srow (upd sl i s) n:=by
 refine srow_ext (by rw[List.length_set,srow_len]) fun i' k' hi' hk'=>?_
 rw[List.getElem?_set]
 by_cases he:i'=i
 ·subst he
  rw[upd_same,← h,List.getElem?_set]
  by_cases hkk:k=k'
  ·subst hkk
   rw[if_pos rfl,if_pos rfl,if_pos (by rw[srow_len];omega),if_pos (by show k<(scell (sl i')).length;exact hk)]
  ·rw[if_neg (by omega),if_neg hkk,srow_get sl i' k' hk' n hi']
 ·rw[if_neg (by omega),upd_ne _ _ he,srow_get sl i' k' hk' n hi']
def wrow (f:Nat→Nat):Nat→List Value
 | 0=>[]
 | n+1=>wrow f n ++ [.int .i64 (f n)]
theorem wrow_len (f:Nat→Nat):∀ n,(wrow f n).length=n
 | 0=>rfl
 | n+1=>by show(wrow f n ++ [_]).length=_;rw[List.length_append,wrow_len f n];rfl
theorem wrow_get (f:Nat→Nat) (i:Nat):∀ n,i<n→(wrow f n)[i]?=some (.int .i64 (f i))
 | 0,h=>absurd h (Nat.not_lt_zero _)
 | n + 1,h=>by
  show(wrow f n ++ [_])[i]?=_
  by_cases hi:i<n
  ·rw[List.getElem?_append_left (by rw[wrow_len];omega)];exact wrow_get f i n hi
  ·have:i=n:=by omega
   subst this
   rw[List.getElem?_append_right (by rw[wrow_len];omega),wrow_len,Nat.sub_self];rfl
theorem wrow_set {f:Nat→Nat} {n i v:Nat} (hi:i<n):(wrow f n).set i (.int .i64 v)=wrow (upd f i v) n:=by
 apply List.ext_getElem?
 intro j
 rw[List.getElem?_set]
 by_cases hj:j<n
 ·rw[wrow_get (upd f i v) j n hj]
  by_cases he:i=j
  ·subst he;rw[if_pos rfl,if_pos (by rw[wrow_len];exact hi),upd_same]
  ·rw[if_neg he,wrow_get f j n hj,upd_ne _ _ (fun e=>he e.symm)]
 ·rw[List.getElem?_eq_none (by rw[wrow_len];omega),if_neg (by omega),List.getElem?_eq_none (by rw[wrow_len];omega)]
def frow (l:List Nat):List Value:=l.map fun(k:Nat)=>Value.int .i64 (k:Int)
/-- The sum of a key's bytes. -/
def fnv (k:Key):Nat:=k.foldl (fun h c=>((h ^^^ c.toNat)*1099511628211) % 18446744073709551616) 14695981039346656037
theorem fnv_lt (k:Key):fnv k<18446744073709551616:=by
 unfold fnv
 have:∀ (k:Key) (h:Nat),h<18446744073709551616→k.foldl (fun h c=>((h ^^^ c.toNat)*1099511628211) % 18446744073709551616) h<18446744073709551616:=fun k=>by
  induction k with
  | nil=>exact fun h hh=>hh
  | cons c k ih=>exact fun h _=>ih _ (Nat.mod_lt _ (by omega))
 exact this k _ (by omega)
/-- Where a table lies. -/
structure TbP where
 b:Nat
 vs:Value
 vf:Value
 g:Nat
/-- A table in memory, whatever is linked, and wherever the ways lead. -/
structure TabM (w:World) (p:TbP) (t:Tb):Prop where
 c0:w.cell? ⟨p.b,0,none⟩=some (.int .i64 t.room)
 c1:w.cell? ⟨p.b,1,none⟩=some p.vs
 c2:w.cell? ⟨p.b,2,none⟩=some p.vf
 c3:w.cell? ⟨p.b,3,none⟩=some (.slice (some ⟨p.g,0,none⟩) t.W t.W)
 c4:w.cell? ⟨p.b,4,none⟩=some (.int .i64 t.first)
 c5:w.cell? ⟨p.b,5,none⟩=some (.int .i64 t.last)
 fz:∀ i,i<6→w.frozen? ⟨p.b,i,none⟩=false
 rs:w.ownsRow 0 122 4 p.vs t.n (srow t.sl t.n)
 rf:w.ownsRow 0 3 1 p.vf t.free.length (frow t.free)
 rw:w.ownsRow 0 3 1 (.slice (some ⟨p.g,0,none⟩) t.W t.W) t.W (wrow t.ways t.W)
 gb:p.g≠p.b
 sb:∀ k,p.vs.ownBlock=some k→k≠p.b∧k≠p.g
 fb:∀ k,p.vf.ownBlock=some k→k≠p.b∧k≠p.g∧p.vs.ownBlock≠some k
 small:t.room≤10000
 nr:t.n≤t.room
 vw:∀ i,i<t.W→t.ways i≤t.n
/-- A table in memory. -/
structure TabAt (w:World) (p:TbP) (t:Tb) (o:List Nat):Prop where
 m:TabM w p t
 ti:TI fnv t o
 ks:∀ k ∈ o,(t.sl k).key.length≤maxLen
/-- The blocks of a table. -/
def TF (p:TbP) (k:Nat):Prop:=k=p.b∨k=p.g∨p.vs.ownBlock=some k∨p.vf.ownBlock=some k
theorem TabM.lt {w:World} {p:TbP} {t:Tb} (h:TabM w p t):∀ k,TF p k→k<w.heap.size:=fun k hk=>by
 rcases hk with rfl|rfl|hk|hk
 ·exact World.block_lt_of_cell? w _ h.c0
 ·exact(World.ownsRow.lt h.rw _ rfl).2
 ·exact(World.ownsRow.lt h.rs _ hk).2
 ·exact(World.ownsRow.lt h.rf _ hk).2
theorem row_frame {w w':World} {base e size:Nat} {v:Value} {n:Nat} {xs:List Value} (h:w.ownsRow base e size v n xs) (hb:∀ k,v.ownBlock=some k→w'.heap[k]?=w.heap[k]?):w'.ownsRow base e size v n xs:=by
 obtain⟨hl,h⟩:=h
 refine⟨hl,?_⟩
 rcases h with h|⟨g,cap,cur,rfl,h2,h3,h4⟩
 ·exact .inl h
 ·exact .inr ⟨g,cap,cur,rfl,h2,by rw[hb g rfl];exact h3,h4⟩
theorem TabM.frame {w w':World} {p:TbP} {t:Tb} (h:TabM w p t) (hb:∀ k,TF p k→w'.heap[k]?=w.heap[k]?):TabM w' p t:=by
 have hc:∀ i u,w.cell? ⟨p.b,i,none⟩=some u→w'.cell? ⟨p.b,i,none⟩=some u:=fun i u hu=>by rw[World.cell?_of_block (hb p.b (.inl rfl))];exact hu
 exact ⟨hc _ _ h.c0,hc _ _ h.c1,hc _ _ h.c2,hc _ _ h.c3,hc _ _ h.c4,hc _ _ h.c5,fun i hi=>by rw[World.frozen?_of_block (hb p.b (.inl rfl))];exact h.fz i hi,
  row_frame h.rs fun k hk=>hb k (.inr (.inr (.inl hk))),row_frame h.rf fun k hk=>hb k (.inr (.inr (.inr hk))),row_frame h.rw fun k hk=>hb k (by cases hk;exact .inr (.inl rfl)),h.gb,h.sb,h.fb,h.small,h.nr,h.vw⟩
theorem TabAt.frame {w w':World} {p:TbP} {t:Tb} {o:List Nat} (h:TabAt w p t o) (hb:∀ k,TF p k→w'.heap[k]?=w.heap[k]?):TabAt w' p t o:=⟨h.m.frame hb,h.ti,h.ks⟩
theorem tabm_bl {w w':World} {p:TbP} {t:Tb} (h:TabM w p t) (hb:Below w.heap.size w w'):TabM w' p t:=h.frame fun k hk=>hb.block k (h.lt k hk)
theorem tab_bl {w w':World} {p:TbP} {t:Tb} {o:List Nat} (h:TabAt w p t o) (hb:Below w.heap.size w w'):TabAt w' p t o:=h.frame fun k hk=>hb.block k (h.m.lt k hk)
/-- A place's cells. -/
theorem TabM.place {w:World} {p:TbP} {t:Tb} (h:TabM w p t) {k:Nat} (hk:k<t.n):∃ q c,p.vs=.slice (some ⟨q,0,none⟩) t.n c∧w.cell? ⟨q,k*4,none⟩=some (.string (ktx (t.sl k).key))∧w.cell? ⟨q,k*4+1,none⟩=some (.int .i64 (t.sl k).val)∧w.cell? ⟨q,k*4+2,none⟩=some (.int .i64 (t.sl k).prev)∧w.cell? ⟨q,k*4+3,none⟩=some (.int .i64 (t.sl k).next):=by
 have hr:=h.rs
 rcases hr.2 with⟨-,h0⟩|⟨q,cap,cur,hv,-⟩
 ·omega
 ·rw[hv] at hr
  have hc:=fun j (hj:j<4)=>World.ownsRow.cellAt hr (k*4+j) (by omega)
  have hg:=fun j (hj:j<4)=>srow_get t.sl k j hj t.n hk
  refine⟨q,cap,hv,?_,?_,?_,?_⟩
  ·rw[show k*4=k*4+0 from rfl,hc 0 (by omega),hg 0 (by omega)];rfl
  ·rw[hc 1 (by omega),hg 1 (by omega)];rfl
  ·rw[hc 2 (by omega),hg 2 (by omega)];rfl
  ·rw[hc 3 (by omega),hg 3 (by omega)];rfl
theorem TabM.way {w:World} {p:TbP} {t:Tb} (h:TabM w p t) {i:Nat} (hi:i<t.W):w.cell? ⟨p.g,i,none⟩=some (.int .i64 (t.ways i)):=by
 rw[World.ownsRow.cellAt h.rw i (by omega),wrow_get t.ways i t.W hi]
def byteOf (s:ByteArray) (i:Nat):UInt8:=if h:i<s.size then s[i] else 0
def fnvTo (k:Key) (j:Nat):Nat:=(k.take j).foldl (fun h c=>((h ^^^ c.toNat)*1099511628211) % 18446744073709551616) 14695981039346656037
theorem fnvTo_step (s:ByteArray) (j:Nat) (h:j<s.size):fnvTo s.data.toList (j+1)=((fnvTo s.data.toList j ^^^ (byteOf s j).toNat)*1099511628211) % 18446744073709551616:=by
 have hl:j<s.data.toList.length:=by simpa using h
 unfold fnvTo
 have e:s.data.toList[j]=byteOf s j:=by
  unfold byteOf
  rw[dif_pos h]
  simp[ByteArray.getElem_eq_getElem_data]
 rw[List.take_succ_eq_append_getElem hl,List.foldl_append,e,List.foldl_cons,List.foldl_nil]
theorem fnvTo_lt (k:Key) (j:Nat):fnvTo k j<18446744073709551616:=fnv_lt (k.take j)
theorem fnvTo_all (s:ByteArray):fnvTo s.data.toList s.size=fnv s.data.toList:=by
 unfold fnvTo fnv
 rw[List.take_of_length_le (by simp)]
theorem hsum_any (s:ByteArray) (hs:s.size≤maxLen) (w:World):Calls Tryz.prog 180 #[.string s] w fun e w'=>e=.returned (.int .u64 (fnv s.data.toList))∧Below w.heap.size w w':=by
 have hnm:(s.size:Int)≤9223372036854775807:=by simp only[maxLen] at hs;omega
 have hst:=fun j hj=>fnvTo_step s j hj
 have hen:=fnvTo_all s
 have hlt:=fun j=>fnvTo_lt s.data.toList j
 have h0:fnvTo s.data.toList 0=14695981039346656037:=rfl
 generalize hF:fnvTo s.data.toList=F at *
 have HST:=Go.Lib.hid hst
 have HEN:=Go.Lib.hid hen
 have HLT:=Go.Lib.hid hlt
 clear hF hst hen hlt
 go_enter Tryz.func180,Tryz.ntmps180
 go_wp2_with fail
 go_loopw [3,7] (fun s3 s7 wr=>∃ j:Nat,s7=.int .i64 j∧j≤s.size∧s3=.int .u64 (F j)∧Hid (Below w.heap.size w wr)) (fun _ s7 _=>s.size - (intOf s7).toNat)
 case atStart=>exact⟨0,rfl,Nat.zero_le _,by rw[h0];rfl,bl_refl _⟩
 case round =>
  obtain⟨j,rfl,hj,rfl,H⟩:=hrel
  by_cases hjn:j<s.size
  ·have k0:(0:Int)≤(j:Int):=by omega
   have k1:(j:Int)<(s.size:Int):=by omega
   have hx2:∀ w,(Instr.index 9 (.string s) (.int .i64 (j:Int))).run Tryz.prog w=.ok (.int .u8 ((byteOf s j).toNat:Int)) w:=fun w=>by
    rw[run_index_string w _ s .i64 (j:Int) Tryz.underlying9,dif_pos ⟨k0,k1⟩]
    simp[byteOf,hjn]
   have hst:=HST.out j hjn
   have hfl:=HLT.out j
   have hxl:(byteOf s j).toNat<256:=UInt8.toNat_lt _
   have hms:s.size - (j+1)<s.size - j:=by omega
   have wj:IntKind.i64.wrap ((j:Int)+1)=(j:Int)+1:=IntWalk.i64_in _ (by omega)
   generalize byteOf s j=X at *
   generalize F j=FJ at *
   have HS:=Go.Lib.hid hst
   clear hst h0
   go_wp2_with fail
   have e1:IntKind.u64.wrap (X.toNat:Int)=(X.toNat:Int):=IntWalk.u64_in _ (by omega)
   have e2:=bits_xor_u64_nat FJ X.toNat hfl (by omega)
   refine⟨⟨j+1,by go_num,hjn,?_,H.out⟩,by(simp[intOf];first|exact hms|omega)⟩
   rw[HS.out,e2,IntKind.wrap_u64,Int.natCast_emod,Int.natCast_mul]
   rfl
  ·have hje:j=s.size:=by omega
   subst hje
   rw[HEN.out]
   have hb:=H.out
   go_wp2_with fail
   go_ret
   exact⟨rfl,hb⟩
theorem at_first (H:Key→Nat) (t:Tb) (k:Key) (hW:t.W≤20001) (hH:H k<18446744073709551616):IntKind.i64.wrap (((H k:Nat):Int).tmod (t.W:Int))=((t.at_ H k 0:Nat):Int):=by
 have hp:0<t.W:=by unfold Tb.W;omega
 have hl:H k % t.W<t.W:=Nat.mod_lt _ hp
 unfold Tb.at_
 rw[Nat.add_zero,Int.tmod_eq_emod_of_nonneg (by omega),← Int.natCast_emod]
 exact IntWalk.i64_in _ (by omega)
theorem at_next (H:Key→Nat) (t:Tb) (k:Key) (d:Nat) (hW:t.W≤20001):IntKind.i64.wrap (((t.at_ H k d:Nat):Int)+1)=((t.at_ H k d:Nat):Int)+1∧(((t.at_ H k d:Nat):Int)+1).tmod (t.W:Int)=((t.at_ H k (d+1):Nat):Int):=by
 have hl:=at_lt (H:=H) t k d
 refine⟨IntWalk.i64_in _ (by omega),?_⟩
 rw[at_step,Int.tmod_eq_emod_of_nonneg (by omega),Int.natCast_emod,Int.natCast_add]
 rfl
theorem idx_of (A:Nat→Nat) (D:Nat) (hA:∀ d e,d≤D→e≤D→A d=A e→d=e):∃ idx:Value→Nat,∀ d,d≤D→idx (.int .i64 ((A d:Nat):Int))=d:=by
 classical
 refine⟨fun v=>if h:∃ d,d≤D∧v=.int .i64 ((A d:Nat):Int) then Classical.choose h else 0,fun d hd=>?_⟩
 have h:∃ e,e≤D∧Value.int .i64 ((A d:Nat):Int)=.int .i64 ((A e:Nat):Int):=⟨d,hd,rfl⟩
 dsimp only
 rw[dif_pos h]
 obtain⟨h1,h2⟩:=Classical.choose_spec h
 injection h2 with _ h2
 exact(hA d _ hd h1 (by omega)).symm
theorem ktx_eq (k:Key) (s:ByteArray):((ktx k).toList == s.toList)=decide (k=s.data.toList):=by
 rw[ByteArray.toList_eq,ByteArray.toList_eq,ktx_list,Bool.eq_iff_iff]
 simp
theorem at_any (p:TbP) (t:Tb) (s:ByteArray) (i:Nat) (hs:s.size≤maxLen) (w:World) (h:TabM w p t) (ha:AtR fnv t s.data.toList i) :
  Calls Tryz.prog 164 #[.pointer (some ⟨p.b,0,none⟩),.string s] w fun e w'=>e=.returned (.int .i64 i)∧Below w.heap.size w w':=by
 have hsum:=fun w=>hsum_any s hs w
 obtain⟨D,hD,hDi,hSt,hBf⟩:=ha
 have hW:t.W≤20001:=by have:=h.small;unfold Tb.W;omega
 have hal:=fun d=>at_lt (H:=fnv) t s.data.toList d
 have hix:=idx_of (fun d=>t.at_ fnv s.data.toList d) D (fun d e hd he hh=>at_inj (H:=fnv) t s.data.toList (by omega) (by omega) hh)
 obtain⟨idx,hix⟩:=hix
 have hfi:=at_first fnv t s.data.toList hW (fnv_lt _)
 have hnx:=fun d=>at_next fnv t s.data.toList d hW
 generalize hK:s.data.toList=K at *
 generalize hA:t.at_ fnv K=A at *
 generalize fnv K=FK at *
 have c3:=h.c3
 have lb_c:=lbc c3
 have HT:=Go.Lib.hid h
 have HST:=Go.Lib.hid hSt
 have HBF:=Go.Lib.hid hBf
 have HNX:=Go.Lib.hid hnx
 have HFI:=Go.Lib.hid hfi
 have HKK:=Go.Lib.hid hK
 have HAL:=Go.Lib.hid hal
 have HDI:=Go.Lib.hid hDi
 have HIDX:=Go.Lib.hid hix
 clear hix
 clear h hSt hBf hnx hfi hK hA hal hDi
 have HSUM:=Go.Lib.hid hsum
 clear hsum
 go_enter Tryz.func164,Tryz.ntmps164
 have hB:=bl_refl w
 go_wp2_with go_step3
 have wu:IntKind.u64.wrap (t.W:Int)=(t.W:Int):=IntWalk.u64_in _ (by omega)
 have hWp:0<t.W:=by unfold Tb.W;omega
 have hWz:¬ (t.W:Int)=0:=by omega
 have hWq:¬ t.W=0:=by omega
 have hSum:=HSUM.out
 have fi:=HFI.out
 generalize hWn:t.W=Wn at *
 have HWN:=Go.Lib.hid hWn.symm
 clear hWn
 refine wp_region_held_drew (S:=fun w'=>w'.cell? ⟨p.b,3,none⟩=some (.slice (some ⟨p.g,0,none⟩) Wn Wn)∧Below w.heap.size w w') (by kernel_rfl) ?_ (fun hHeld=>?_)
 ·exact⟨c3,bl_drew hB⟩
 try simp only[Act.put,List.setIfInBounds_toArray,List.set_cons_zero,List.set_cons_succ]
 refine tkx 0 ?_
 refine tkx 2 ?_
 refine tkx 3 ?_
 refine tkx 4 ?_
 refine tkx 5 ?_
 refine tkx 6 ?_
 refine tkx 7 ?_
 (refine callH (i:=1) rfl hHeld (fun W hW K hK=>?_);clear hHeld;(try dsimp only at hW);obtain⟨h_c3,h_B⟩:=hW;go_simp;refine(HSUM.out W).mono ?_;rintro e w9 ⟨rfl,hb⟩;go_wp2_with fail;refine hK.out _ _ ?_ (fun hHeld=>?_);(focus((try dsimp only);exact⟨bl_cell hb h_c3,bl_then h_B hb⟩));clear hK K;clear h_c3 h_B;try simp only[Act.put,List.setIfInBounds_toArray,List.set_cons_zero,List.set_cons_succ])
 refine tkx 8 ?_
 refine tkx 9 ?_
 refine tkx 10 ?_
 refine wpAnyH_done (by kernel_rfl) ?_ _
 refine then_abs (F:=fun w'=>w'.cell? ⟨p.b,3,none⟩=some (.slice (some ⟨p.g,0,none⟩) Wn Wn)∧Below w.heap.size w w') hHeld ?_
 clear hHeld hB c3
 rintro w1 ⟨c3,hB⟩
 go_wp2_with go_step3
 go_loopw [5,6] (fun s5 s6 wr=>∃ d:Nat,s5=.int .i64 (A d)∧d≤D∧Hid (Below w.heap.size w wr)) (fun s5 _ _=>D - idx s5)
 case atStart=>exact⟨0,rfl,Nat.zero_le _,hB⟩
 case round =>
  clear c3 hB
  obtain⟨d,rfl,hd,H⟩:=hrel
  have hB:=H.out
  clear H
  have hTM:=tabm_bl HT.out hB
  have c1:=hTM.c1
  have c3:=hTM.c3
  have had:=HAL.out d
  rw[← HWN.out] at c3
  skip
  have hwy:=hTM.way (i:=A d) (by rw[← HWN.out];exact had)
  have ki0:(0:Int)≤(A d:Int):=by omega
  have ki1:(A d:Int)<(Wn:Int):=by omega
  have hvw:=hTM.vw (A d) (by rw[← HWN.out];exact had)
  have hns:=hTM.nr
  have hsm:=hTM.small
  have lb_c:=lbc c3
  by_cases hz:t.ways (A d)=0
  ·rw [hz] at hwy
   replace hwy:_=some (Value.int .i64 0):=hwy
   have hdD:d=D:=by
    apply Classical.byContradiction
    intro hne
    exact HBF.out d (by omega) (.inl hz)
   subst hdD
   skip
   clear hz hTM hvw
   go_wp2_with go_step3
   skip
   (try simp only[Exit.inBlock,Exit.then,Exit.noGoto_ret])
   go_ret
   exact⟨by rw[HDI.out];rfl,hB⟩
  ·obtain ⟨k,hk⟩:∃ k,t.ways (A d)=k+1:=⟨t.ways (A d) - 1,by omega⟩
   obtain⟨q,cq,hv,x0,-,-,-⟩:=hTM.place (k:=k) (by omega)
   rw[hv] at c1
   have hkey:=ktx_eq (t.sl k).key s
   rw[HKK.out] at hkey
   rw[hk,show((k+1:Nat):Int)=(k:Int)+1 from rfl] at hwy
   have wk:IntKind.i64.wrap ((k:Int)+1 - 1)=(k:Int):=by rw[show(k:Int)+1 - 1=(k:Int) by omega];exact IntWalk.i64_in _ (by omega)
   have q0:(0:Int)≤(k:Int):=by omega
   have q1:(k:Int)<(t.n:Int):=by omega
   have kz:¬ (k:Int)+1=0:=by omega
   have hkn:k<t.n:=by omega
   by_cases he:(t.sl k).key=K
   ·have hdD:d=D:=by
     apply Classical.byContradiction
     intro hne
     exact HBF.out d (by omega) (.inr (by rw[hk];exact he))
    subst hdD
    rw[decide_eq_true he] at hkey
    generalize ktx (t.sl k).key=T at *
    clear hz hTM hvw he hv hk
    go_wp2_with go_step3
    (try simp only[Exit.inBlock,Exit.then,Exit.noGoto_ret])
    go_ret
    exact⟨by rw[HDI.out];rfl,hB⟩
   ·have hdD:d<D:=by
     apply Classical.byContradiction
     intro hne
     have hdd:d=D:=by omega
     have hs:=HST.out
     rw[HDI.out,← hdd] at hs
     rcases hs with hs|hs
     ·exact hz hs
     ·rw[hk] at hs;exact he hs
    rw[decide_eq_false he] at hkey
    generalize ktx (t.sl k).key=T at *
    obtain⟨nx1,nx2⟩:=HNX.out d
    have hi1:=HIDX.out d hd
    have hi2:=HIDX.out (d+1) hdD
    clear hz hTM hvw he hv hk
    go_wp2_with go_step3
    refine⟨?_,?_⟩
    ·(repeat apply Exists.intro)
     exact⟨⟨d+1,rfl,hdD,hB⟩,rfl⟩
    ·show D - idx (.int .i64 ((A (d+1):Nat):Int))<D - idx (.int .i64 ((A d:Nat):Int))
     rw[hi1,hi2]
     omega
end Go.Proofs.YtmhikkbdhboodaaGreat

namespace Go.Proofs.YtmhikkbdhboodaaGreat
open Go.RowKit
set_option linter.unusedVariables false
set_option linter.unusedSimpArgs false

/-- Only blocks of F have turned, of those that were there. -/
structure Only (F:Nat→Prop) (w w':World):Prop where
 os:w'.os=w.os
 tape:w'.tape=w.tape
 output:w'.output=w.output
 size:w.heap.size≤w'.heap.size
 block:∀ b,b<w.heap.size→¬ F b→w'.heap[b]?=w.heap[b]?
theorem Only.of_below {F:Nat→Prop} {w w':World} (h:Below w.heap.size w w'):Only F w w':=⟨h.os,h.tape,h.output,h.size,fun b hb _=>h.block b hb⟩
theorem Only.of_grown {F:Nat→Prop} {w w':World} {g:Nat} (h:w.grownBy w' (some g)) (hg:F g):Only F w w':=⟨h.os,h.tape,h.output,h.size,fun b hb hf=>h.block b hb (by rintro e;injection e with e;exact hf (e ▸ hg))⟩
theorem Only.trans {F:Nat→Prop} {a b c:World} (h:Only F a b) (k:Only F b c):Only F a c :=
 ⟨k.os.trans h.os,k.tape.trans h.tape,k.output.trans h.output,Nat.le_trans h.size k.size,fun i hi hf=>(k.block i (Nat.lt_of_lt_of_le hi h.size) hf).trans (h.block i hi hf)⟩
theorem Only.below {F:Nat→Prop} {w w':World} {B:Nat} (h:Only F w w') (hB:B≤w.heap.size) (hf:∀ b,F b→B≤b):Below B w w' :=
 ⟨h.os,h.tape,h.output,h.size,fun b hb=>h.block b (by omega) (fun hF=>by have:=hf b hF;omega)⟩
theorem Only.set {F:Nat→Prop} {w w':World} (h:Only F w w') {a:Addr} (ha:F a.block) (v:Value):Only F w (w'.setCell a v):=by
 refine⟨h.os,h.tape,h.output,by rw[World.size_setCell];exact h.size,fun b hb hf=>?_⟩
 rw[← h.block b hb hf]
 have hne:a.block≠b:=fun e=>hf (e ▸ ha)
 simp[World.setCell,Array.getElem?_modify,hne]
theorem Only.drew {F:Nat→Prop} {w w':World} (h:Only F w w'):Only F w w'.drew:=⟨h.os,h.tape,h.output,h.size,h.block⟩
theorem only_cell {F:Nat→Prop} {w W:World} (h:Only F w W) {b o:Nat} {i:Option Nat} {v:Value} (hc:w.cell? ⟨b,o,i⟩=some v) (hf:¬ F b):W.cell? ⟨b,o,i⟩=some v:=by
 have hb:=World.block_lt_of_cell? w _ hc
 rw[World.cell?_of_block (h.block b hb hf)]
 exact hc
end Go.Proofs.YtmhikkbdhboodaaGreat

namespace Go.Proofs.YtmhikkbdhboodaaGreat
open Go.RowKit Go.Maps
set_option linter.unusedVariables false
set_option linter.unusedSimpArgs false

theorem row_other {w:World} {base e size:Nat} {v:Value} {n:Nat} {xs:List Value} (h:w.ownsRow base e size v n xs) (x:Addr) (u:Value) (hne:∀ k,v.ownBlock=some k→k≠x.block):(w.setCell x u).ownsRow base e size v n xs :=
 ownsRow_setCell_other h (fun e=>hne _ e rfl) u
theorem only_set1 {F:Nat→Prop} {w:World} (x:Addr) (u:Value) (h:F x.block):Only F w (w.setCell x u):=(Only.of_below (bl_refl w)).set h u
theorem only_mono {F G:Nat→Prop} {w w':World} (h:Only F w w') (hg:∀ k,F k→G k):Only G w w':=⟨h.os,h.tape,h.output,h.size,fun b hb hn=>h.block b hb (fun hf=>hn (hg b hf))⟩
section
variable {w:World} {p:TbP} {t:Tb}
/-- A cell of a place. -/
theorem TabM.setSlot (h:TabM w p t) {q c k j:Nat} {u:Value} {s:Slot} (hv:p.vs=.slice (some ⟨q,0,none⟩) t.n c) (hk:k<t.n) (hj:j<4) (hs:(scell (t.sl k)).set j u=scell s):TabM (w.setCell ⟨q,k*4+j,none⟩ u) p { t with sl:=upd t.sl k s }:=by
 have hq:p.vs.ownBlock=some q:=by rw[hv];rfl
 obtain⟨hq1,hq2⟩:=h.sb q hq
 have hc:∀ i v,w.cell? ⟨p.b,i,none⟩=some v→(w.setCell ⟨q,k*4+j,none⟩ u).cell? ⟨p.b,i,none⟩=some v:=fun i v hi=>far_set hi _ _ hq1
 have hr:=h.rs
 rw[hv] at hr
 have hr2:=(World.ownsRow.stored hr (k*4+j) u).1
 rw[srow_set hk hj hs,← hv] at hr2
 exact ⟨hc _ _ h.c0,hc _ _ h.c1,hc _ _ h.c2,hc _ _ h.c3,hc _ _ h.c4,hc _ _ h.c5,fun i hi=>by rw[World.frozen?_setCell];exact h.fz i hi,hr2,
  row_other h.rf _ _ (fun k' hk' e=>(h.fb k' hk').2.2 (by rw[hq,e])),row_other h.rw _ _ (fun k' hk' e=>by cases hk';exact hq2 e.symm),h.gb,h.sb,h.fb,h.small,h.nr,h.vw⟩
theorem TabM.setFirst (h:TabM w p t) (v:Int):TabM (w.setCell ⟨p.b,4,none⟩ (.int .i64 v)) p { t with first:=v }:=by
 have hc:∀ i v',i≠4→w.cell? ⟨p.b,i,none⟩=some v'→(w.setCell ⟨p.b,4,none⟩ (.int .i64 v)).cell? ⟨p.b,i,none⟩=some v':=fun i v' hi hv=>by
  rw[World.cell?_setCell_other _ _ _ _ (by simp;try omega)];exact hv
 exact ⟨hc _ _ (by omega) h.c0,hc _ _ (by omega) h.c1,hc _ _ (by omega) h.c2,hc _ _ (by omega) h.c3,World.cell?_setCell_same' w _ _ (by rw[h.c4];rfl),hc _ _ (by omega) h.c5,fun i hi=>by rw[World.frozen?_setCell];exact h.fz i hi,
  row_other h.rs _ _ (fun k hk=>(h.sb k hk).1),row_other h.rf _ _ (fun k hk=>(h.fb k hk).1),row_other h.rw _ _ (fun k hk=>by cases hk;exact h.gb),h.gb,h.sb,h.fb,h.small,h.nr,h.vw⟩
theorem TabM.setLast (h:TabM w p t) (v:Int):TabM (w.setCell ⟨p.b,5,none⟩ (.int .i64 v)) p { t with last:=v }:=by
 have hc:∀ i v',i≠5→w.cell? ⟨p.b,i,none⟩=some v'→(w.setCell ⟨p.b,5,none⟩ (.int .i64 v)).cell? ⟨p.b,i,none⟩=some v':=fun i v' hi hv=>by
  rw[World.cell?_setCell_other _ _ _ _ (by simp;try omega)];exact hv
 exact ⟨hc _ _ (by omega) h.c0,hc _ _ (by omega) h.c1,hc _ _ (by omega) h.c2,hc _ _ (by omega) h.c3,hc _ _ (by omega) h.c4,World.cell?_setCell_same' w _ _ (by rw[h.c5];rfl),fun i hi=>by rw[World.frozen?_setCell];exact h.fz i hi,
  row_other h.rs _ _ (fun k hk=>(h.sb k hk).1),row_other h.rf _ _ (fun k hk=>(h.fb k hk).1),row_other h.rw _ _ (fun k hk=>by cases hk;exact h.gb),h.gb,h.sb,h.fb,h.small,h.nr,h.vw⟩
theorem TabM.setWay (h:TabM w p t) {i v:Nat} (hi:i<t.W) (hv:v≤t.n):TabM (w.setCell ⟨p.g,i,none⟩ (.int .i64 v)) p { t with ways:=upd t.ways i v }:=by
 have hc:∀ j v',w.cell? ⟨p.b,j,none⟩=some v'→(w.setCell ⟨p.g,i,none⟩ (.int .i64 v)).cell? ⟨p.b,j,none⟩=some v':=fun j v' hj=>far_set hj _ _ h.gb
 have hr:=(World.ownsRow.stored h.rw i (.int .i64 (v:Int))).1
 rw[wrow_set hi] at hr
 exact ⟨hc _ _ h.c0,hc _ _ h.c1,hc _ _ h.c2,hc _ _ h.c3,hc _ _ h.c4,hc _ _ h.c5,fun i hi=>by rw[World.frozen?_setCell];exact h.fz i hi,
  row_other h.rs _ _ (fun k hk=>(h.sb k hk).2),row_other h.rf _ _ (fun k hk=>(h.fb k hk).2.1),hr,h.gb,h.sb,h.fb,h.small,h.nr,fun j hj=>by
   show upd t.ways i v j≤t.n
   unfold upd
   split
   ·exact hv
   ·exact h.vw j hj⟩
theorem TabM.slotFrozen (h:TabM w p t) {q c:Nat} (hv:p.vs=.slice (some ⟨q,0,none⟩) t.n c) (j:Nat):w.frozen? ⟨q,j,none⟩=false:=by
 have hr:=h.rs
 rw[hv] at hr
 exact World.ownsRow.frozenAt hr j
theorem TabM.wayFrozen (h:TabM w p t) (j:Nat):w.frozen? ⟨p.g,j,none⟩=false:=World.ownsRow.frozenAt h.rw j
end
end Go.Proofs.YtmhikkbdhboodaaGreat

namespace Go.Proofs.YtmhikkbdhboodaaGreat
open Go.RowKit Go.Maps
set_option linter.unusedVariables false
set_option linter.unusedSimpArgs false

theorem row_form {w:World} {base e size:Nat} {v:Value} {n:Nat} {xs:List Value} (h:w.ownsRow base e size v n xs):∃ a c,v=.slice a n c:=by
 rcases h.2 with⟨rfl,h0⟩|⟨g,cap,cur,rfl,-⟩
 ·subst h0;exact⟨_,_,rfl⟩
 ·exact⟨_,_,rfl⟩
theorem find_any (p:TbP) (t:Tb) (s:ByteArray) (i:Nat) (hs:s.size≤maxLen) (w:World) (h:TabM w p t) (ha:AtR fnv t s.data.toList i) :
  Calls Tryz.prog 141 #[.pointer (some ⟨p.b,0,none⟩),.string s] w fun e w'=>e=.returned (.int .i64 ((t.ways i:Int) - 1))∧Below w.heap.size w w':=by
 have hat:=fun w h=>at_any p t s i hs w h ha
 have hiW:i<t.W:=by obtain⟨d,-,e,-⟩:=ha;rw[e];exact at_lt _ _ _
 have c3:=h.c3
 have cw:=h.way hiW
 have hvw:=h.vw i hiW
 have hnr:=h.nr
 have hsm:=h.small
 have lb_c:=World.block_lt_of_cell? _ _ c3
 have lb_g:=World.block_lt_of_cell? _ _ cw
 dsimp only at lb_c lb_g
 have HT:=Go.Lib.hid h
 have wv:IntKind.i64.wrap ((t.ways i:Int) - 1)=(t.ways i:Int) - 1:=IntWalk.i64_in _ (by omega)
 generalize (t.ways i:Int)=V at *
 have ki0:(0:Int)≤(i:Int):=by omega
 have ki1:(i:Int)<(t.W:Int):=by omega
 generalize t.W=Wn at *
 clear h ha hvw hnr hsm
 have HAT:=Go.Lib.hid hat
 clear hat
 have hB:=bl_refl w
 go_enter Tryz.func141,Tryz.ntmps141
 go_wp2_with fail
 refine wp_region_held_drew (S:=fun w'=>w'.cell? ⟨p.b,3,none⟩=some (.slice (some ⟨p.g,0,none⟩) Wn Wn)∧w'.cell? ⟨p.g,i,none⟩=some (.int .i64 V)∧Below w.heap.size w w') (by kernel_rfl) ?_ (fun hHeld=>?_)
 ·exact⟨c3,cw,bl_drew hB⟩
 try simp only[Act.put,List.setIfInBounds_toArray,List.set_cons_zero,List.set_cons_succ]
 refine tkx 0 ?_
 refine tkx 1 ?_
 refine tkx 2 ?_
 refine tkx 3 ?_
 refine tkx 4 ?_
 refine tkx 5 ?_
 (refine callH (i:=6) rfl hHeld (fun W hW K hK=>?_);clear hHeld;(try dsimp only at hW);obtain⟨h_c3,h_cw,h_B⟩:=hW;go_simp;refine(HAT.out W (tabm_bl HT.out h_B)).mono ?_;rintro e w9 ⟨rfl,hb⟩;go_wp2_with fail;refine hK.out _ _ ?_ (fun hHeld=>?_);(focus((try dsimp only);exact⟨bl_cell hb h_c3,bl_cell hb h_cw,bl_then h_B hb⟩));clear hK K;clear h_c3 h_cw h_B;try simp only[Act.put,List.setIfInBounds_toArray,List.set_cons_zero,List.set_cons_succ])
 refine tkx 7 ?_
 refine tkx 8 ?_
 refine tkx 9 ?_
 refine tkx 10 ?_
 refine wpAnyH_done (by kernel_rfl) ?_ _
 refine then_abs (F:=fun w'=>w'.cell? ⟨p.b,3,none⟩=some (.slice (some ⟨p.g,0,none⟩) Wn Wn)∧w'.cell? ⟨p.g,i,none⟩=some (.int .i64 V)∧Below w.heap.size w w') hHeld ?_
 clear hHeld hB c3 cw
 rintro w1 ⟨c3,cw,hB⟩
 go_wp2_with fail
 go_ret
 exact⟨rfl,hB⟩
theorem count_any (p:TbP) (t:Tb) (w:World) (h:TabM w p t) (hf:t.free.length≤t.n) :
  Calls Tryz.prog 144 #[.pointer (some ⟨p.b,0,none⟩)] w fun e w'=>e=.returned (.int .i64 ((t.n:Int) - (t.free.length:Int)))∧Below w.heap.size w w':=by
 obtain⟨a1,k1,e1⟩:=row_form h.rs
 obtain⟨a2,k2,e2⟩:=row_form h.rf
 have c1:=h.c1
 have c2:=h.c2
 rw[e1] at c1
 rw[e2] at c2
 have hnr:=h.nr
 have hsm:=h.small
 have wv:IntKind.i64.wrap ((t.n:Int) - (t.free.length:Int))=(t.n:Int) - (t.free.length:Int):=IntWalk.i64_in _ (by omega)
 generalize t.n=N at *
 generalize t.free.length=M at *
 have lb_c:=lbc c1
 clear h hnr hsm hf e1 e2
 have hB:=bl_refl w
 go_enter Tryz.func144,Tryz.ntmps144
 go_wp2_with fail
 refine wp_region_held_drew (S:=fun w'=>w'.cell? ⟨p.b,1,none⟩=some (.slice a1 N k1)∧w'.cell? ⟨p.b,2,none⟩=some (.slice a2 M k2)∧Below w.heap.size w w') (by kernel_rfl) ?_ (fun hHeld=>?_)
 ·exact⟨c1,c2,bl_drew hB⟩
 try simp only[Act.put,List.setIfInBounds_toArray,List.set_cons_zero,List.set_cons_succ]
 refine tkx 0 ?_
 refine tkx 1 ?_
 refine tkx 2 ?_
 refine tkx 3 ?_
 refine tkx 4 ?_
 refine tkx 5 ?_
 refine tkx 6 ?_
 refine tkx 7 ?_
 refine tkx 8 ?_
 refine tkx 9 ?_
 refine tkx 10 ?_
 refine tkx 11 ?_
 refine wpAnyH_done (by kernel_rfl) ?_ _
 refine then_abs (F:=fun w'=>w'.cell? ⟨p.b,1,none⟩=some (.slice a1 N k1)∧w'.cell? ⟨p.b,2,none⟩=some (.slice a2 M k2)∧Below w.heap.size w w') hHeld ?_
 clear hHeld hB c1 c2
 rintro w1 ⟨c1,c2,hB⟩
 go_wp2_with fail
 go_ret
 exact⟨rfl,hB⟩
theorem cut_half1 (t:Tb) (k:Nat) (t1:Tb) (h1:(t.sl k).prev = -1→t1 = { t with first:=(t.sl k).next }) (h2:∀ a:Nat,(t.sl k).prev=a→t1 = { t with sl:=upd t.sl a { t.sl a with next:=(t.sl k).next } }) (hp:(t.sl k).prev = -1∨∃ a:Nat,(t.sl k).prev=a) (hn:(t.sl k).next = -1∨∃ b:Nat,(t.sl k).next=b) :
  ((t.sl k).next = -1 → { t1 with last:=(t.sl k).prev }=t.cut k)∧(∀ b:Nat,(t.sl k).next=b → { t1 with sl:=upd t1.sl b { t1.sl b with prev:=(t.sl k).prev } }=t.cut k):=by
 unfold Tb.cut cutSl cutFirst cutLast
 refine⟨fun hx=>?_,fun b hb=>?_⟩
 ·rcases hp with hp|⟨a,hp⟩
  ·rw[h1 hp,hx,hp]
   simp[setNext,setPrev]
  ·rw[h2 a hp,hx,hp,setNext_nat]
   simp[setPrev]
 ·rcases hp with hp|⟨a,hp⟩
  ·rw[h1 hp,hb,hp,setPrev_nat]
   simp[setNext]
  ·rw[h2 a hp,hb,hp,setNext_nat,setPrev_nat]
   simp
theorem cut_any (p:TbP) (t:Tb) (k:Nat) (w:World) (h:TabM w p t) (hk:k<t.n) (hp:(t.sl k).prev = -1∨∃ a:Nat,(t.sl k).prev=a∧a<t.n) (hx:(t.sl k).next = -1∨∃ b:Nat,(t.sl k).next=b∧b<t.n) :
  Calls Tryz.prog 181 #[.pointer (some ⟨p.b,0,none⟩),.int .i64 k] w fun e w'=>e=.returned (.tuple #[])∧TabM w' p (t.cut k)∧Only (TF p) w w':=by
 obtain⟨q,cq,hv,x0,x1,x2,x3⟩:=h.place hk
 have c1:=h.c1
 rw[hv] at c1
 have hlt:=h.lt
 have hqb:=h.sb q (by rw[hv];rfl)
 have TFq:TF p q:=.inr (.inr (.inl (by rw[hv];rfl)))
 have TFb:TF p p.b:=.inl rfl
 have lq:=hlt q TFq
 have lb:=hlt p.b TFb
 have hsm:=h.small
 have hnr:=h.nr
 have k0:(0:Int)≤(k:Int):=by omega
 have k1:(k:Int)<(t.n:Int):=by omega
 have nqb:q≠p.b:=hqb.1
 have nqw:q≠w.heap.size:=by omega
 have nbw:p.b≠w.heap.size:=by omega
 have HMW:=Go.Lib.hid h
 have h12:=cut_half1 t k
 have c4:=h.c4
 have c5:=h.c5
 have f4:=h.fz 4 (by omega)
 have f5:=h.fz 5 (by omega)
 clear hlt hqb
 generalize hPV:(t.sl k).prev=PV at *
 generalize hNX:(t.sl k).next=NX at *
 generalize ktx (t.sl k).key=KT at *
 generalize (t.sl k).val=VV at *
 have HM:=Go.Lib.hid (tabm_bl h (bl_alloc (bl_refl w) (.cells #[.string KT,.int .i64 VV,.int .i64 PV,.int .i64 NX] 122)))
 have H12:=Go.Lib.hid h12
 clear h12 hPV hNX
 go_enter Tryz.func181,Tryz.ntmps181
 rcases hp with rfl|⟨a,rfl,ha⟩
 ·rcases hx with rfl|⟨b,rfl,hb⟩
  ·have ho0:Only (TF p) w (w.alloc (.cells #[.string KT,.int .i64 VV,.int .i64 (-1),.int .i64 (-1)] 122)):=Only.of_below (bl_alloc (bl_refl w) _)
   have h12:=H12.out ({ t with first:=(-1) }) (fun _=>rfl) (fun a h=>absurd h (by omega)) (.inl rfl) (.inl rfl)
   have H12B:=Go.Lib.hid h12
   clear h12 H12
   clear ho0 HM
   have HM1:=Go.Lib.hid (tabm_bl ((HMW.out.setFirst (-1)).setLast (-1)) (bl_alloc (bl_refl ((w.setCell ⟨p.b,4,none⟩ (.int .i64 (-1))).setCell ⟨p.b,5,none⟩ (.int .i64 (-1)))) (.cells #[.string KT,.int .i64 VV,.int .i64 (-1),.int .i64 (-1)] 122)))
   have HO0:=Go.Lib.hid (Only.trans (Only.set (only_set1 ⟨p.b,4,none⟩ (.int .i64 (-1)) TFb) (a:=⟨p.b,5,none⟩) TFb (.int .i64 (-1))) (Only.of_below (bl_alloc (bl_refl ((w.setCell ⟨p.b,4,none⟩ (.int .i64 (-1))).setCell ⟨p.b,5,none⟩ (.int .i64 (-1)))) (.cells #[.string KT,.int .i64 VV,.int .i64 (-1),.int .i64 (-1)] 122))))
   go_wp2_with fail
   refine bodyPost_end (v:=.tuple #[]) (by simp[results,Tryz.results181,go_sem]) rfl ⟨rfl,?_,HO0.out⟩
   rw[← H12B.out.1 (by simp)]
   exact HM1.out
  ·have b0:(0:Int)≤(b:Int):=by omega
   have b1:(b:Int)<(t.n:Int):=by omega
   have bz:¬ (b:Int) = -1:=by omega
   have ho0:Only (TF p) w (w.alloc (.cells #[.string KT,.int .i64 VV,.int .i64 (-1),.int .i64 (b:Int)] 122)):=Only.of_below (bl_alloc (bl_refl w) _)
   have h12:=H12.out ({ t with first:=(b:Int) }) (fun _=>rfl) (fun a h=>absurd h (by omega)) (.inl rfl) (.inr ⟨b,rfl⟩)
   have H12B:=Go.Lib.hid h12
   clear h12 H12
   clear ho0 HM
   have HM1:=Go.Lib.hid (tabm_bl (HMW.out.setFirst (b:Int)) (bl_alloc (bl_refl (w.setCell ⟨p.b,4,none⟩ (.int .i64 (b:Int)))) (.cells #[.string KT,.int .i64 VV,.int .i64 (-1),.int .i64 (b:Int)] 122)))
   have HO0:=Go.Lib.hid (Only.trans (only_set1 (F:=TF p) ⟨p.b,4,none⟩ (.int .i64 (b:Int)) TFb) (Only.of_below (bl_alloc (bl_refl (w.setCell ⟨p.b,4,none⟩ (.int .i64 (b:Int)))) (.cells #[.string KT,.int .i64 VV,.int .i64 (-1),.int .i64 (b:Int)] 122))))
   go_wp2_with fail
   refine wp_region_held_drew (S:=fun w'=>w'.cell? ⟨p.b,1,none⟩=some (.slice (some ⟨q,0,none⟩) t.n cq)∧w'.cell? ⟨w.heap.size,2,none⟩=some (.int .i64 (-1))∧w'.cell? ⟨w.heap.size,3,none⟩=some (.int .i64 (b:Int))∧Only (TF p) w w') (by kernel_rfl) ?_ (fun hHeld=>?_)
   ·exact⟨by go_simp,by go_simp,by go_simp,HO0.out.drew⟩
   try simp only[Act.put,List.setIfInBounds_toArray,List.set_cons_zero,List.set_cons_succ]
   refine wpAnyH_abs (F:=fun X=>TabM X p { t with first:=(b:Int) }) hHeld (tabm_bl HM1.out (bl_drew (bl_refl _))) ?_
   clear hHeld
   rintro X0 hHeld hm
   refine tkx 0 ?_
   refine tkx 1 ?_
   refine tkx 2 ?_
   refine tkx 3 ?_
   refine tkx 4 ?_
   refine tkx 5 ?_
   refine tkx 6 ?_
   refine tkx 7 ?_
   refine tkx 8 ?_
   refine tkx 9 ?_
   refine callC (i:=10) rfl (fun K hK=>?_)
   obtain⟨h_c1,h_b2,h_b3,h_hO⟩:=(id hHeld)
   obtain⟨q',cq',hv',z0,z1,z2,z3⟩:=hm.place (k:=b) hb
   rw[hv] at hv'
   cases hv'
   have fq:=hm.slotFrozen hv (b*4+2)
   go_simp
   refine hK.out _ _ ?_ (fun hHeld2=>?_)
   ·(try dsimp only);exact⟨far_set h_c1 _ _ (by dsimp only;first|assumption|omega),far_set h_b2 _ _ (by dsimp only;first|assumption|omega),far_set h_b3 _ _ (by dsimp only;first|assumption|omega),Only.set h_hO (by dsimp only;first|assumption|exact TFs) _⟩
   replace hm:=hm.setSlot (k:=b) (j:=2) (u:=.int .i64 (-1)) (s := { ({ t with first:=(b:Int) }:Tb).sl b with prev:=(-1) }) hv hb (by omega) rfl
   clear z0 z1 z2 z3 fq
   clear hHeld hK K h_c1 h_b2 h_b3 h_hO
   have hHeld:=hHeld2
   clear hHeld2
   try simp only[Act.put,List.setIfInBounds_toArray,List.set_cons_zero,List.set_cons_succ]
   refine wpAnyH_done (by kernel_rfl) ?_ _
   obtain⟨-,-,-,hE⟩:=hHeld
   repeat' (first|go_skip|go_guarded|go_step|go_upon)
   refine bodyPost_end (v:=.tuple #[]) (by simp[results,Tryz.results181,go_sem]) rfl ⟨rfl,?_,hE⟩
   rw[← H12B.out.2 b rfl]
   exact hm
 ·have a0:(0:Int)≤(a:Int):=by omega
  have a1:(a:Int)<(t.n:Int):=by omega
  have az:¬ (a:Int) = -1:=by omega
  rcases hx with rfl|⟨b,rfl,hb⟩
  ·have ho0:Only (TF p) w (w.alloc (.cells #[.string KT,.int .i64 VV,.int .i64 (a:Int),.int .i64 (-1)] 122)):=Only.of_below (bl_alloc (bl_refl w) _)
   have h12:=H12.out ({ t with sl:=upd t.sl a { t.sl a with next:=(-1) } }) (fun h=>absurd h (by omega)) (fun a' h=>by cases Int.ofNat_inj.1 h;rfl) (.inr ⟨a,rfl⟩) (.inl rfl)
   have H12B:=Go.Lib.hid h12
   clear h12 H12
   have HO0:=Go.Lib.hid ho0
   clear ho0
   go_wp2_with fail
   refine wp_region_held_drew (S:=fun w'=>w'.cell? ⟨p.b,1,none⟩=some (.slice (some ⟨q,0,none⟩) t.n cq)∧w'.cell? ⟨w.heap.size,2,none⟩=some (.int .i64 (a:Int))∧w'.cell? ⟨w.heap.size,3,none⟩=some (.int .i64 (-1))∧Only (TF p) w w') (by kernel_rfl) ?_ (fun hHeld=>?_)
   ·exact⟨by go_simp,by go_simp,by go_simp,HO0.out.drew⟩
   try simp only[Act.put,List.setIfInBounds_toArray,List.set_cons_zero,List.set_cons_succ]
   refine wpAnyH_abs (F:=fun X=>TabM X p t) hHeld (tabm_bl HM.out (bl_drew (bl_refl _))) ?_
   clear hHeld
   rintro X0 hHeld hm
   refine tkx 0 ?_
   refine tkx 1 ?_
   refine tkx 2 ?_
   refine tkx 3 ?_
   refine tkx 4 ?_
   refine tkx 5 ?_
   refine tkx 6 ?_
   refine tkx 7 ?_
   refine tkx 8 ?_
   refine tkx 9 ?_
   refine callC (i:=10) rfl (fun K hK=>?_)
   obtain⟨h_c1,h_b2,h_b3,h_hO⟩:=(id hHeld)
   obtain⟨q',cq',hv',z0,z1,z2,z3⟩:=hm.place (k:=a) ha
   rw[hv] at hv'
   cases hv'
   have fq:=hm.slotFrozen hv (a*4+3)
   go_simp
   refine hK.out _ _ ?_ (fun hHeld2=>?_)
   ·(try dsimp only);exact⟨far_set h_c1 _ _ (by dsimp only;first|assumption|omega),far_set h_b2 _ _ (by dsimp only;first|assumption|omega),far_set h_b3 _ _ (by dsimp only;first|assumption|omega),Only.set h_hO (by dsimp only;first|assumption|exact TFs) _⟩
   replace hm:=hm.setSlot (k:=a) (j:=3) (u:=.int .i64 (-1)) (s := { (t:Tb).sl a with next:=(-1) }) hv ha (by omega) rfl
   clear z0 z1 z2 z3 fq
   clear hHeld hK K h_c1 h_b2 h_b3 h_hO
   have hHeld:=hHeld2
   clear hHeld2
   try simp only[Act.put,List.setIfInBounds_toArray,List.set_cons_zero,List.set_cons_succ]
   refine wpAnyH_done (by kernel_rfl) ?_ _
   refine then_abs (F:=fun w'=>(w'.cell? ⟨p.b,1,none⟩=some (.slice (some ⟨q,0,none⟩) t.n cq)∧w'.cell? ⟨w.heap.size,2,none⟩=some (.int .i64 (a:Int))∧w'.cell? ⟨w.heap.size,3,none⟩=some (.int .i64 (-1))∧Only (TF p) w w')∧TabM w' p { t with sl:=upd t.sl a { t.sl a with next:=(-1) } }) ⟨hHeld,hm⟩ ?_
   clear hHeld hm c1
   rintro w1 ⟨⟨d1,b2,b3,hO⟩,hm1⟩
   have hs1:=hO.size
   have lbc:=World.block_lt_of_cell? _ _ b2
   dsimp only at lbc
   have HM1:=Go.Lib.hid hm1
   have HO1:=Go.Lib.hid hO
   have g5:=HM1.out.fz 5 (by omega)
   have e5:=HM1.out.c5
   clear hm1 hO
   go_wp2_with fail
   refine bodyPost_end (v:=.tuple #[]) (by simp[results,Tryz.results181,go_sem]) rfl ⟨rfl,?_,HO1.out.set TFb _⟩
   rw[← H12B.out.1 (by simp)]
   exact HM1.out.setLast _
  ·have b0:(0:Int)≤(b:Int):=by omega
   have b1:(b:Int)<(t.n:Int):=by omega
   have bz:¬ (b:Int) = -1:=by omega
   have ho0:Only (TF p) w (w.alloc (.cells #[.string KT,.int .i64 VV,.int .i64 (a:Int),.int .i64 (b:Int)] 122)):=Only.of_below (bl_alloc (bl_refl w) _)
   have h12:=H12.out ({ t with sl:=upd t.sl a { t.sl a with next:=(b:Int) } }) (fun h=>absurd h (by omega)) (fun a' h=>by cases Int.ofNat_inj.1 h;rfl) (.inr ⟨a,rfl⟩) (.inr ⟨b,rfl⟩)
   have H12B:=Go.Lib.hid h12
   clear h12 H12
   have HO0:=Go.Lib.hid ho0
   clear ho0
   go_wp2_with fail
   refine wp_region_held_drew (S:=fun w'=>w'.cell? ⟨p.b,1,none⟩=some (.slice (some ⟨q,0,none⟩) t.n cq)∧w'.cell? ⟨w.heap.size,2,none⟩=some (.int .i64 (a:Int))∧w'.cell? ⟨w.heap.size,3,none⟩=some (.int .i64 (b:Int))∧Only (TF p) w w') (by kernel_rfl) ?_ (fun hHeld=>?_)
   ·exact⟨by go_simp,by go_simp,by go_simp,HO0.out.drew⟩
   try simp only[Act.put,List.setIfInBounds_toArray,List.set_cons_zero,List.set_cons_succ]
   refine wpAnyH_abs (F:=fun X=>TabM X p t) hHeld (tabm_bl HM.out (bl_drew (bl_refl _))) ?_
   clear hHeld
   rintro X0 hHeld hm
   refine tkx 0 ?_
   refine tkx 1 ?_
   refine tkx 2 ?_
   refine tkx 3 ?_
   refine tkx 4 ?_
   refine tkx 5 ?_
   refine tkx 6 ?_
   refine tkx 7 ?_
   refine tkx 8 ?_
   refine tkx 9 ?_
   refine callC (i:=10) rfl (fun K hK=>?_)
   obtain⟨h_c1,h_b2,h_b3,h_hO⟩:=(id hHeld)
   obtain⟨q',cq',hv',z0,z1,z2,z3⟩:=hm.place (k:=a) ha
   rw[hv] at hv'
   cases hv'
   have fq:=hm.slotFrozen hv (a*4+3)
   go_simp
   refine hK.out _ _ ?_ (fun hHeld2=>?_)
   ·(try dsimp only);exact⟨far_set h_c1 _ _ (by dsimp only;first|assumption|omega),far_set h_b2 _ _ (by dsimp only;first|assumption|omega),far_set h_b3 _ _ (by dsimp only;first|assumption|omega),Only.set h_hO (by dsimp only;first|assumption|exact TFs) _⟩
   replace hm:=hm.setSlot (k:=a) (j:=3) (u:=.int .i64 (b:Int)) (s := { (t:Tb).sl a with next:=(b:Int) }) hv ha (by omega) rfl
   clear z0 z1 z2 z3 fq
   clear hHeld hK K h_c1 h_b2 h_b3 h_hO
   have hHeld:=hHeld2
   clear hHeld2
   try simp only[Act.put,List.setIfInBounds_toArray,List.set_cons_zero,List.set_cons_succ]
   refine wpAnyH_done (by kernel_rfl) ?_ _
   refine then_abs (F:=fun w'=>(w'.cell? ⟨p.b,1,none⟩=some (.slice (some ⟨q,0,none⟩) t.n cq)∧w'.cell? ⟨w.heap.size,2,none⟩=some (.int .i64 (a:Int))∧w'.cell? ⟨w.heap.size,3,none⟩=some (.int .i64 (b:Int))∧Only (TF p) w w')∧TabM w' p { t with sl:=upd t.sl a { t.sl a with next:=(b:Int) } }) ⟨hHeld,hm⟩ ?_
   clear hHeld hm c1
   rintro w1 ⟨⟨d1,b2,b3,hO⟩,hm1⟩
   have hs1:=hO.size
   have lbc:=World.block_lt_of_cell? _ _ b2
   dsimp only at lbc
   have HM1:=Go.Lib.hid hm1
   have HO1:=Go.Lib.hid hO
   clear hm1 hO
   go_wp2_with fail
   refine wp_region_held_drew (S:=fun w'=>w'.cell? ⟨p.b,1,none⟩=some (.slice (some ⟨q,0,none⟩) t.n cq)∧w'.cell? ⟨w.heap.size,2,none⟩=some (.int .i64 (a:Int))∧w'.cell? ⟨w.heap.size,3,none⟩=some (.int .i64 (b:Int))∧Only (TF p) w w') (by kernel_rfl) ?_ (fun hHeld=>?_)
   ·exact⟨d1,b2,b3,HO1.out.drew⟩
   try simp only[Act.put,List.setIfInBounds_toArray,List.set_cons_zero,List.set_cons_succ]
   refine wpAnyH_abs (F:=fun X=>TabM X p { t with sl:=upd t.sl a { t.sl a with next:=(b:Int) } }) hHeld (tabm_bl HM1.out (bl_drew (bl_refl _))) ?_
   clear hHeld
   rintro X0 hHeld hm
   refine tkx 0 ?_
   refine tkx 1 ?_
   refine tkx 2 ?_
   refine tkx 3 ?_
   refine tkx 4 ?_
   refine tkx 5 ?_
   refine tkx 6 ?_
   refine tkx 7 ?_
   refine tkx 8 ?_
   refine tkx 9 ?_
   refine callC (i:=10) rfl (fun K hK=>?_)
   obtain⟨h_c1,h_b2,h_b3,h_hO⟩:=(id hHeld)
   obtain⟨q',cq',hv',z0,z1,z2,z3⟩:=hm.place (k:=b) hb
   rw[hv] at hv'
   cases hv'
   have fq:=hm.slotFrozen hv (b*4+2)
   go_simp
   refine hK.out _ _ ?_ (fun hHeld2=>?_)
   ·(try dsimp only);exact⟨far_set h_c1 _ _ (by dsimp only;first|assumption|omega),far_set h_b2 _ _ (by dsimp only;first|assumption|omega),far_set h_b3 _ _ (by dsimp only;first|assumption|omega),Only.set h_hO (by dsimp only;first|assumption|exact TFs) _⟩
   replace hm:=hm.setSlot (k:=b) (j:=2) (u:=.int .i64 (a:Int)) (s := { ({ t with sl:=upd t.sl a { t.sl a with next:=(b:Int) } }:Tb).sl b with prev:=(a:Int) }) hv hb (by omega) rfl
   clear z0 z1 z2 z3 fq
   clear hHeld hK K h_c1 h_b2 h_b3 h_hO
   have hHeld:=hHeld2
   clear hHeld2
   try simp only[Act.put,List.setIfInBounds_toArray,List.set_cons_zero,List.set_cons_succ]
   refine wpAnyH_done (by kernel_rfl) ?_ _
   obtain⟨-,-,-,hE⟩:=hHeld
   repeat' (first|go_skip|go_guarded|go_step|go_upon)
   refine bodyPost_end (v:=.tuple #[]) (by simp[results,Tryz.results181,go_sem]) rfl ⟨rfl,?_,hE⟩
   rw[← H12B.out.2 b rfl]
   exact hm
theorem lay_sl (sl:Nat→Slot) (k:Nat) (l:Int):upd (upd sl k { sl k with prev:=l }) k { upd sl k { sl k with prev:=l } k with next := -1 }=upd sl k { sl k with prev:=l,next := -1 }:=by
 funext x
 by_cases hx:x=k
 ·subst hx;rw[upd_same,upd_same,upd_same]
 ·rw[upd_ne _ _ hx,upd_ne _ _ hx,upd_ne _ _ hx]
theorem lay_any (p:TbP) (t:Tb) (k:Nat) (w:World) (h:TabM w p t) (hk:k<t.n) (hl:t.last = -1∨∃ b:Nat,t.last=b∧b<t.n) :
  Calls Tryz.prog 169 #[.pointer (some ⟨p.b,0,none⟩),.int .i64 k] w fun e w'=>e=.returned (.tuple #[])∧TabM w' p (t.lay k)∧Only (TF p) w w':=by
 obtain⟨q,cq,hv,x0,x1,x2,x3⟩:=h.place hk
 have c1:=h.c1
 rw[hv] at c1
 have hlt:=h.lt
 have hqb:=h.sb q (by rw[hv];rfl)
 have TFq:TF p q:=.inr (.inr (.inl (by rw[hv];rfl)))
 have TFb:TF p p.b:=.inl rfl
 have lq:=hlt q TFq
 have lb:=hlt p.b TFb
 have hsm:=h.small
 have hnr:=h.nr
 have k0:(0:Int)≤(k:Int):=by omega
 have k1:(k:Int)<(t.n:Int):=by omega
 have nqb:q≠p.b:=hqb.1
 have c5:=h.c5
 have hls:=lay_sl t.sl k t.last
 unfold Tb.lay laySl
 generalize hLV:t.last=LV at *
 have HM:=Go.Lib.hid h
 have HLS:=Go.Lib.hid hls
 have HLV:=Go.Lib.hid hLV
 clear hlt hqb h hls hLV x0 x1 x2 x3
 have hO:=Only.of_below (F:=TF p) (bl_refl w)
 go_enter Tryz.func169,Tryz.ntmps169
 go_wp2_with fail
 refine wp_region_held_drew (S:=fun w'=>w'.cell? ⟨p.b,1,none⟩=some (.slice (some ⟨q,0,none⟩) t.n cq)∧w'.cell? ⟨p.b,5,none⟩=some (.int .i64 LV)∧Only (TF p) w w') (by kernel_rfl) ?_ (fun hHeld=>?_)
 ·exact⟨c1,c5,hO.drew⟩
 try simp only[Act.put,List.setIfInBounds_toArray,List.set_cons_zero,List.set_cons_succ]
 refine wpAnyH_abs (F:=fun X=>TabM X p t) hHeld (tabm_bl HM.out (bl_drew (bl_refl _))) ?_
 clear hHeld
 rintro X0 hHeld hm
 refine tkx 0 ?_
 refine tkx 1 ?_
 refine tkx 2 ?_
 refine tkx 3 ?_
 refine tkx 4 ?_
 refine tkx 5 ?_
 refine tkx 6 ?_
 refine tkx 7 ?_
 refine tkx 8 ?_
 refine tkx 9 ?_
 refine tkx 10 ?_
 refine tkx 11 ?_
 refine tkx 12 ?_
 refine tkx 13 ?_
 refine tkx 14 ?_
 refine tkx 15 ?_
 refine callC (i:=16) rfl (fun K hK=>?_)
 obtain⟨h_c1,h_c5,h_hO⟩:=(id hHeld)
 obtain⟨q',cq',hv',z0,z1,z2,z3⟩:=hm.place (k:=k) hk
 rw[hv] at hv'
 cases hv'
 have fq:=hm.slotFrozen hv (k*4+2)
 go_simp
 refine hK.out _ _ ?_ (fun hHeld2=>?_)
 ·(try dsimp only);exact⟨far_set h_c1 _ _ (by dsimp only;first|assumption|omega),far_set h_c5 _ _ (by dsimp only;first|assumption|omega),Only.set h_hO (by dsimp only;first|assumption|exact TFs) _⟩
 replace hm:=hm.setSlot (k:=k) (j:=2) (u:=.int .i64 LV) (s := { t.sl k with prev:=LV }) hv hk (by omega) rfl
 clear z0 z1 z2 z3 fq
 clear hHeld hK K h_c1 h_c5 h_hO
 have hHeld:=hHeld2
 clear hHeld2
 try simp only[Act.put,List.setIfInBounds_toArray,List.set_cons_zero,List.set_cons_succ]
 refine tkx 17 ?_
 refine tkx 18 ?_
 refine callC (i:=19) rfl (fun K hK=>?_)
 obtain⟨h_c1,h_c5,h_hO⟩:=(id hHeld)
 obtain⟨q',cq',hv',z0,z1,z2,z3⟩:=hm.place (k:=k) hk
 rw[hv] at hv'
 cases hv'
 have fq:=hm.slotFrozen hv (k*4+3)
 go_simp
 refine hK.out _ _ ?_ (fun hHeld2=>?_)
 ·(try dsimp only);exact⟨far_set h_c1 _ _ (by dsimp only;first|assumption|omega),far_set h_c5 _ _ (by dsimp only;first|assumption|omega),Only.set h_hO (by dsimp only;first|assumption|exact TFs) _⟩
 replace hm:=hm.setSlot (k:=k) (j:=3) (u:=.int .i64 (-1)) (s := { upd t.sl k { t.sl k with prev:=LV } k with next := -1 }) hv hk (by omega) rfl
 clear z0 z1 z2 z3 fq
 dsimp only at hm
 rw[HLS.out] at hm
 clear hHeld hK K h_c1 h_c5 h_hO
 have hHeld:=hHeld2
 clear hHeld2
 try simp only[Act.put,List.setIfInBounds_toArray,List.set_cons_zero,List.set_cons_succ]
 refine wpAnyH_done (by kernel_rfl) ?_ _
 refine then_abs (F:=fun w'=>(w'.cell? ⟨p.b,1,none⟩=some (.slice (some ⟨q,0,none⟩) t.n cq)∧w'.cell? ⟨p.b,5,none⟩=some (.int .i64 LV)∧Only (TF p) w w')∧TabM w' p { t with sl:=upd t.sl k { t.sl k with prev:=LV,next := -1 } }) ⟨hHeld,hm⟩ ?_
 clear hHeld hm c1 c5 hO
 rintro w1 ⟨⟨c1,c5,hO⟩,hm1⟩
 rcases hl with rfl|⟨b,rfl,hb⟩
 ·have f4:=hm1.fz 4 (by omega)
  have c4:=hm1.c4
  have f5:=hm1.fz 5 (by omega)
  have HM1:=Go.Lib.hid ((hm1.setFirst (k:Int)).setLast (k:Int))
  have HO:=Go.Lib.hid ((hO.set (a:=⟨p.b,4,none⟩) TFb (.int .i64 (k:Int))).set (a:=⟨p.b,5,none⟩) TFb (.int .i64 (k:Int)))
  clear hm1 hO
  go_wp2_with fail
  refine bodyPost_end (v:=.tuple #[]) (by simp[results,Tryz.results169,go_sem]) rfl ⟨rfl,?_,HO.out⟩
  have hz:=HM1.out
  unfold setNext
  rw[if_pos (by omega)]
  exact hz
 ·have b0:(0:Int)≤(b:Int):=by omega
  have b1:(b:Int)<(t.n:Int):=by omega
  have bz:¬ (b:Int) = -1:=by omega
  have HM1:=Go.Lib.hid hm1
  have HO:=Go.Lib.hid hO
  clear hm1 hO
  go_wp2_with fail
  refine wp_region_held_drew (S:=fun w'=>w'.cell? ⟨p.b,1,none⟩=some (.slice (some ⟨q,0,none⟩) t.n cq)∧w'.cell? ⟨p.b,5,none⟩=some (.int .i64 (b:Int))∧Only (TF p) w w') (by kernel_rfl) ?_ (fun hHeld=>?_)
  ·exact⟨c1,c5,HO.out.drew⟩
  try simp only[Act.put,List.setIfInBounds_toArray,List.set_cons_zero,List.set_cons_succ]
  refine wpAnyH_abs (F:=fun X=>TabM X p { t with sl:=upd t.sl k { t.sl k with prev:=(b:Int),next := -1 } }) hHeld (tabm_bl HM1.out (bl_drew (bl_refl _))) ?_
  clear hHeld
  rintro X0 hHeld hm
  refine tkx 0 ?_
  refine tkx 1 ?_
  refine tkx 2 ?_
  refine tkx 3 ?_
  refine tkx 4 ?_
  refine tkx 5 ?_
  refine tkx 6 ?_
  refine tkx 7 ?_
  refine tkx 8 ?_
  refine tkx 9 ?_
  refine tkx 10 ?_
  refine callC (i:=11) rfl (fun K hK=>?_)
  obtain⟨h_c1,h_c5,h_hO⟩:=(id hHeld)
  obtain⟨q',cq',hv',z0,z1,z2,z3⟩:=hm.place (k:=b) hb
  rw[hv] at hv'
  cases hv'
  have fq:=hm.slotFrozen hv (b*4+3)
  go_simp
  refine hK.out _ _ ?_ (fun hHeld2=>?_)
  ·(try dsimp only);exact⟨far_set h_c1 _ _ (by dsimp only;first|assumption|omega),far_set h_c5 _ _ (by dsimp only;first|assumption|omega),Only.set h_hO (by dsimp only;first|assumption|exact TFs) _⟩
  replace hm:=hm.setSlot (k:=b) (j:=3) (u:=.int .i64 (k:Int)) (s := { ({ t with sl:=upd t.sl k { t.sl k with prev:=(b:Int),next := -1 } }:Tb).sl b with next:=k }) hv hb (by omega) rfl
  clear z0 z1 z2 z3 fq
  clear hHeld hK K h_c1 h_c5 h_hO
  have hHeld:=hHeld2
  clear hHeld2
  try simp only[Act.put,List.setIfInBounds_toArray,List.set_cons_zero,List.set_cons_succ]
  refine wpAnyH_done (by kernel_rfl) ?_ _
  refine then_abs (F:=fun w'=>(w'.cell? ⟨p.b,1,none⟩=some (.slice (some ⟨q,0,none⟩) t.n cq)∧w'.cell? ⟨p.b,5,none⟩=some (.int .i64 (b:Int))∧Only (TF p) w w')∧TabM w' p { t with sl:=upd (upd t.sl k { t.sl k with prev:=(b:Int),next := -1 }) b { upd t.sl k { t.sl k with prev:=(b:Int),next := -1 } b with next:=(k:Int) } }) ⟨hHeld,hm⟩ ?_
  clear hHeld hm c1 c5
  rintro w2 ⟨⟨c1,c5,hO⟩,hm2⟩
  have f5:=hm2.fz 5 (by omega)
  have HM2:=Go.Lib.hid (hm2.setLast (k:Int))
  have HO2:=Go.Lib.hid (hO.set (a:=⟨p.b,5,none⟩) TFb (.int .i64 (k:Int)))
  clear hm2 hO
  go_wp2_with fail
  refine bodyPost_end (v:=.tuple #[]) (by simp[results,Tryz.results169,go_sem]) rfl ⟨rfl,?_,HO2.out⟩
  have hz:=HM2.out
  rw[setNext_nat]
  exact hz
theorem ls_cases (a:List Nat):lsO (-1) a = -1∨∃ x:Nat,lsO (-1) a=x∧x ∈ a:=by
 rcases snoc_cases a with rfl|⟨a',x,rfl⟩
 ·exact .inl rfl
 ·exact .inr ⟨x,lsO_snoc _ _ _,by simp⟩
theorem hd_cases (a:List Nat):hdO a (-1) = -1∨∃ x:Nat,hdO a (-1)=x∧x ∈ a:=by
 cases a with
 | nil=>exact .inl rfl
 | cons x a=>exact .inr ⟨x,rfl,by simp⟩
theorem ti_near {H:Key→Nat} {t:Tb} {o:List Nat} (h:TI H t o) {k:Nat} (hk:k ∈ o):((t.sl k).prev = -1∨∃ a:Nat,(t.sl k).prev=a∧a<t.n)∧((t.sl k).next = -1∨∃ b:Nat,(t.sl k).next=b∧b<t.n):=by
 obtain⟨a,b,rfl⟩:=split_of hk
 obtain⟨h1,h2,-⟩:=cut_seg h.nodup h.seg
 rw[h1,h2]
 refine⟨?_,?_⟩
 ·rcases ls_cases a with e|⟨x,e,hx⟩
  ·exact .inl e
  ·exact .inr ⟨x,e,h.lt x (by simp[hx])⟩
 ·rcases hd_cases b with e|⟨x,e,hx⟩
  ·exact .inl e
  ·exact .inr ⟨x,e,h.lt x (by simp[hx])⟩
theorem ti_last {H:Key→Nat} {t:Tb} {o:List Nat} (h:TI H t o):t.last = -1∨∃ b:Nat,t.last=b∧b<t.n:=by
 rw[h.last]
 rcases ls_cases o with e|⟨x,e,hx⟩
 ·exact .inl e
 ·exact .inr ⟨x,e,h.lt x hx⟩
theorem ti_cut_last {H:Key→Nat} {t:Tb} {o:List Nat} (h:TI H t o) {k:Nat} (hk:k ∈ o):(t.cut k).last = -1∨∃ b:Nat,(t.cut k).last=b∧b<(t.cut k).n:=by
 rw[(ti_cut h hk).2.2]
 rcases ls_cases (o.erase k) with e|⟨x,e,hx⟩
 ·exact .inl e
 ·exact .inr ⟨x,e,h.lt x (List.mem_of_mem_erase hx)⟩
theorem touch_any (p:TbP) (t:Tb) (o:List Nat) (k:Nat) (w:World) (h:TabAt w p t o) (hk:k ∈ o) :
  Calls Tryz.prog 168 #[.pointer (some ⟨p.b,0,none⟩),.int .i64 k] w fun e w'=>e=.returned (.tuple #[])∧TabAt w' p (t.touch k) (o.erase k ++ [k])∧Only (TF p) w w':=by
 have hti:=h.ti
 have hcut:=fun w hw=>cut_any p t k w hw (hti.lt k hk) (ti_near hti hk).1 (ti_near hti hk).2
 have hlay:=fun w hw=>lay_any p (t.cut k) k w hw (hti.lt k hk) (ti_cut_last hti hk)
 have htt:=ti_touch hti hk
 have hks:∀ x ∈ o.erase k ++ [k],((t.touch k).sl x).key.length≤maxLen:=fun x hx=>by
  rw[show((t.touch k).sl x).key=(t.sl x).key from(laySl_key _ _ _ _).1.trans (cutSl_key _ _ _).1]
  refine h.ks x ?_
  rcases List.mem_append.1 hx with hx|hx
  ·exact List.mem_of_mem_erase hx
  ·rw[List.mem_singleton] at hx;rw[hx];exact hk
 unfold Tb.touch at *
 generalize t.cut k=t1 at *
 generalize t1.lay k=t2 at *
 have hm:=h.m
 have HTT:=Go.Lib.hid (And.intro htt hks)
 clear htt hks hti h
 have HCUT:=Go.Lib.hid hcut
 have HLAY:=Go.Lib.hid hlay
 have HM:=Go.Lib.hid hm
 clear hcut hlay hm
 go_enter Tryz.func168,Tryz.ntmps168
 go_wp2_with fail
 refine(HCUT.out _ HM.out).mono ?_
 rintro e w1 ⟨rfl,hm1,hO1⟩
 have HM1:=Go.Lib.hid hm1
 clear hm1
 go_wp2_with fail
 refine(HLAY.out _ HM1.out).mono ?_
 rintro e w2 ⟨rfl,hm2,hO2⟩
 have HM2:=Go.Lib.hid hm2
 clear hm2
 go_wp2_with fail
 refine bodyPost_end (v:=.tuple #[]) (by simp[results,Tryz.results168,go_sem]) rfl ⟨rfl,⟨HM2.out,HTT.out.1,HTT.out.2⟩,hO1.trans hO2⟩
theorem ti_stop {t:Tb} {o:List Nat} (h:TI fnv t o) (x:Key):∃ i,AtR fnv t x i:=by
 obtain⟨z,hz,h0⟩:=some_free h
 exact at_is t x ⟨z,hz,.inl h0⟩
theorem key_val (t:Tb) (k:Nat) (v:Int) (x:Nat):((t.setVal k v).sl x).key=(t.sl x).key:=by
 unfold Tb.setVal upd
 dsimp only
 split
 ·next h=>rw[h]
 ·rfl
theorem put_there (p:TbP) (t:Tb) (o:List Nat) (k:Nat) (s:ByteArray) (v:Int) (w:World) (h:TabAt w p t o) (hk:k ∈ o) (hs:s.size≤maxLen) (hx:(t.sl k).key=s.data.toList) :
  Calls Tryz.prog 148 #[.pointer (some ⟨p.b,0,none⟩),.string s,.int .i64 v] w fun e w'=>e=.returned (.bool true)∧TabAt w' p ((t.setVal k v).touch k) (o.erase k ++ [k])∧Only (TF p) w w':=by
 obtain⟨i,ha⟩:=ti_stop h.ti s.data.toList
 have hw:=at_there h.ti hk (hx ▸ ha)
 have hfd:=fun w h=>find_any p t s i hs w h ha
 rw[hw,show(((k+1:Nat):Int) - 1)=(k:Int) by omega] at hfd
 have htc:=fun w h=>touch_any p (t.setVal k v) o k w h hk
 have hkn:=h.ti.lt k hk
 have hm:=h.m
 have hv2:TI fnv (t.setVal k v) o∧∀ x ∈ o,((t.setVal k v).sl x).key.length≤maxLen:=⟨ti_val h.ti k v,fun x hx=>by rw[key_val];exact h.ks x hx⟩
 generalize hTV:(t.setVal k v).touch k=TV at *
 have HTV:=Go.Lib.hid hTV
 clear hTV
 have HM:=Go.Lib.hid hm
 have HV2:=Go.Lib.hid hv2
 have k0:(0:Int)≤(k:Int):=by omega
 have k1:(k:Int)<(t.n:Int):=by omega
 have kz:¬ (k:Int) = -1:=by omega
 clear h ha hw hm hv2
 have HFD:=Go.Lib.hid hfd
 have HTC:=Go.Lib.hid htc
 clear hfd htc
 go_enter Tryz.func148,Tryz.ntmps148
 go_wp2_with fail
 refine(HFD.out _ HM.out).mono ?_
 rintro e w1 ⟨rfl,hb⟩
 have hm1:=tabm_bl HM.out hb
 have hO1:=Only.of_below (F:=TF p) hb
 obtain⟨q,cq,hv,x0,x1,x2,x3⟩:=hm1.place hkn
 have c1:=hm1.c1
 rw[hv] at c1
 have fq:=hm1.slotFrozen hv (k*4+1)
 have TFq:TF p q:=.inr (.inr (.inl (by rw[hv];rfl)))
 have hm2:=hm1.setSlot (k:=k) (j:=1) (u:=.int .i64 v) (s := { t.sl k with val:=v }) hv hkn (by omega) rfl
 have hO2:=hO1.set (a:=⟨q,k*4+1,none⟩) TFq (.int .i64 v)
 have HM2:=Go.Lib.hid hm2
 have HO2:=Go.Lib.hid hO2
 clear hm2 hO2 hm1 hO1 hb
 go_wp2_with fail
 refine(HTC.out _ ⟨HM2.out,HV2.out.1,HV2.out.2⟩).mono ?_
 rintro e w2 ⟨rfl,hm3,hO3⟩
 have HM3:=Go.Lib.hid hm3
 clear hm3
 go_wp2_with fail
 go_ret
 exact⟨rfl,HM3.out,HO2.out.trans hO3⟩
theorem infoSl:(Tryz.prog.info? 122).map (fun i=>(i.zero,i.size,i.bytes))=some (some (.agg #[.string ByteArray.empty,.int .i64 0,.int .i64 0,.int .i64 0]),4,40):=by kernel_rfl
theorem undSl:Tryz.prog.underlying 110=some (.slice 122):=by kernel_rfl
theorem infoTI:(Tryz.prog.info? 3).map (fun i=>(i.zero,i.size,i.bytes))=some (some (.int .i64 0),1,8):=by kernel_rfl
theorem undTI:Tryz.prog.underlying 109=some (.slice 3):=by kernel_rfl
theorem run_put1 {P:Program} (base:Nat) (S ty e:TypeId) (i0:TypeInfo) (z:Value) (size bytes:Nat) (hu:P.underlying S=some (.slice e)) (hi:P.info? e=some i0) (hz0:i0.zero=some z) (hz1:i0.size=size) (hz2:i0.bytes=bytes) (hzs:z.cells.size=size) (hsz:0<size)
  (v:Value) (n:Nat) (xs news:List Value) (w:World) (q c:Nat) (hown:w.ownsRow base e size v n xs) (hl:news.length=size) (hnews:∀ j x,news[j]?=some x→w.cell? ((⟨q,0,none⟩:Addr).add j)=some x) (hone:∀ x ∈ news,x.oneCell'=true) (hn:n≤20000) (hby:bytes≤100) (hbase:base≤w.heap.size) :
  ∃ v' w',(Builtin.append_ #[S,S] ty #[v,.slice (some ⟨q,0,none⟩) 1 c]).run P w=.ok v' w'∧w'.ownsRow base e size v' (n+1) (xs ++ news)∧w.grownBy w' v.ownBlock∧∀ g,v'.ownBlock=some g→v.ownBlock=some g∨w.heap.size≤g:=by
 have hl1:news.length=1*size:=by omega
 have hb1:(n+1)*bytes≤140737488355328:=Nat.le_trans (Nat.mul_le_mul (by omega:n+1≤20001) hby) (by omega)
 obtain⟨v',w',h1,h2,h3,-⟩:=run_append_own w base S ty e i0 z size bytes hu hi hz0 hz1 hz2 hzs hsz v n xs hown ⟨q,0,none⟩ 1 c news hl1 hnews hone (by simp only[maxLen];omega) hb1 hbase
 refine⟨v',w',h1,h2,h3,?_⟩
 have hown2:=hown
 rcases hown.2 with⟨rfl,hx⟩|⟨g,cap,cur,rfl,hbg,hg,hnc,hcm,hcs,htake⟩
 ·obtain⟨v2,w2,g1,g2,-,-⟩:=run_append_own w w.heap.size S ty e i0 z size bytes hu hi hz0 hz1 hz2 hzs hsz (.slice none 0 0) n xs ⟨hown.1,.inl ⟨rfl,hx⟩⟩ ⟨q,0,none⟩ 1 c news hl1 hnews hone (by simp only[maxLen];omega) hb1 (Nat.le_refl _)
  rw[h1] at g1
  injection g1 with g1 _
  subst g1
  intro g hg
  exact .inr (World.ownsRow.lt g2 g hg).1
 ·by_cases hroom:n+1≤cap
  ·have hfit:n*i0.size+news.length≤cur.size:=by
    rw[hz1,hcs,hl]
    have:=Nat.mul_le_mul_right size hroom
    rw[Nat.add_mul] at this
    omega
   have hr:=run_append_room (P:=P) w S ty e i0 hu hi g n cap cur hg ⟨q,0,none⟩ 1 c news (by rw[hz1];exact hl1) hnews hone hroom hfit
   rw[h1] at hr
   injection hr with hr _
   subst hr
   intro g' hg'
   exact .inl hg'
  ·obtain⟨v2,w2,g1,g2,-⟩:=run_append_arg_grows (P:=P) w S ty e i0 z size bytes hu hi hz0 hz1 hz2 hzs hsz ⟨g,0,none⟩ n cap xs hown.1 (hown2.cells (g:=g) rfl) ⟨q,0,none⟩ 1 c news hl1 hnews (by omega) (by simp only[maxLen];omega) hb1
   rw[h1] at g1
   injection g1 with g1 _
   subst g1
   intro g hg
   exact .inr (World.ownsRow.lt g2 g hg).1
theorem wpList_put1 {ops:Array Oper} {rest:List Oper} {o:Oper} {x0:Act} {Q:Exit→Act→World→Prop} {P:Program} (w:World) (hgd:o.guard=none) (s x:Operand) (S:TypeId)
  (ho:o.op=.call { callee:=.builtin .append,args := #[s,x],argTypes := #[S,S] }) (e:TypeId) (i0:TypeInfo) (z:Value) (size bytes:Nat) (hu:P.underlying S=some (.slice e)) (hi:P.info? e=some i0) (hz0:i0.zero=some z) (hz1:i0.size=size) (hz2:i0.bytes=bytes) (hzs:z.cells.size=size) (hsz:0<size)
  (base:Nat) (v:Value) (n:Nat) (xs news:List Value) (hs:x0.eval s=v) (hown:w.ownsRow base e size v n xs) (q c:Nat) (hx:x0.eval x=.slice (some ⟨q,0,none⟩) 1 c) (hl:news.length=size) (hnews:∀ j x,news[j]?=some x→w.cell? ((⟨q,0,none⟩:Addr).add j)=some x) (hone:∀ x ∈ news,x.oneCell'=true) (hn:n≤20000) (hby:bytes≤100) (hbase:base≤w.heap.size)
  (h:∀ v' w',w'.ownsRow base e size v' (n+1) (xs ++ news)→w.grownBy w' v.ownBlock→(∀ g,v'.ownBlock=some g→v.ownBlock=some g∨w.heap.size≤g)→wpList P ops Q rest (x0.put o.dst v') w'):wpList P ops Q (o :: rest) x0 w :=
 wpList_plain hgd fun K hK=>by
  obtain⟨v',w',hr,h2,h3,h4⟩:=run_put1 (P:=P) base S o.type e i0 z size bytes hu hi hz0 hz1 hz2 hzs hsz v n xs news w q c hown hl hnews hone hn hby hbase
  unfold Oper.wp execOp
  simp only[ho,resolve,invoke,builtin,Sem.run_bind,Sem.run_pure,Result.andThen_ok,List.map_toArray,List.map_cons,List.map_nil,hs,hx,hr]
  exact hK _ _ (h v' w' h2 h3 h4)
end Go.Proofs.YtmhikkbdhboodaaGreat

namespace Go.Proofs.YtmhikkbdhboodaaGreat
open Go.RowKit Go.Maps
set_option linter.unusedVariables false
set_option linter.unusedSimpArgs false

theorem srow_congr {f g:Nat→Slot}:∀ n,(∀ k,k<n→f k=g k)→srow f n=srow g n
 | 0,_=>rfl
 | n+1,h=>by
  show srow f n ++ scell (f n)=srow g n ++ scell (g n)
  rw[srow_congr n (fun k hk=>h k (by omega)),h n (by omega)]
theorem upd_upd {α:Type} (f:Nat→α) (k:Nat) (a b:α):upd (upd f k a) k b=upd f k b:=by
 funext x
 unfold upd
 split <;> rfl
theorem frow_len (l:List Nat):(frow l).length=l.length:=by unfold frow;simp
section
variable {w:World} {p:TbP} {t:Tb}
/-- The free places, the last one known. -/
theorem TabM.lastFree (h:TabM w p t) {fs:List Nat} {k:Nat} (hf:t.free=fs ++ [k]):∃ g c,p.vf=.slice (some ⟨g,0,none⟩) (fs.length+1) c∧w.cell? ⟨g,fs.length,none⟩=some (.int .i64 k)∧fs.length+1≤c∧c≤maxLen:=by
 have hr:=h.rf
 rw[hf,List.length_append,List.length_singleton] at hr
 rcases hr.2 with⟨-,h0⟩|⟨g,cap,cur,hv,-,-,hnc,hcm,-⟩
 ·omega
 ·rw[hv] at hr
  refine⟨g,cap,hv,?_,hnc,hcm⟩
  rw[World.ownsRow.cellAt hr fs.length (by omega)]
  unfold frow
  simp
theorem TabM.popFree (h:TabM w p t) {fs:List Nat} {k g c:Nat} (hf:t.free=fs ++ [k]) (hv:p.vf=.slice (some ⟨g,0,none⟩) (fs.length+1) c) :
  TabM (w.setCell ⟨p.b,2,none⟩ (.slice (some ⟨g,0,none⟩) fs.length c)) { p with vf:=.slice (some ⟨g,0,none⟩) fs.length c } { t with free:=fs }:=by
 have hr:=h.rf
 rw[hf,List.length_append,List.length_singleton,hv] at hr
 unfold frow at hr
 rw[List.map_append] at hr
 have hr2:=ownsRow_pop (xs:=frow fs) (by rw[frow_len,Nat.mul_one]) hr
 have hg:=h.fb g (by rw[hv];rfl)
 have hc:∀ i v',i≠2→w.cell? ⟨p.b,i,none⟩=some v'→(w.setCell ⟨p.b,2,none⟩ (.slice (some ⟨g,0,none⟩) fs.length c)).cell? ⟨p.b,i,none⟩=some v':=fun i v' hi hv=>by
  rw[World.cell?_setCell_other _ _ _ _ (by simp;try omega)];exact hv
 exact ⟨hc _ _ (by omega) h.c0,hc _ _ (by omega) h.c1,World.cell?_setCell_same' w _ _ (by rw[h.c2];rfl),hc _ _ (by omega) h.c3,hc _ _ (by omega) h.c4,hc _ _ (by omega) h.c5,fun i hi=>by rw[World.frozen?_setCell];exact h.fz i hi,
  row_other h.rs _ _ (fun k hk=>(h.sb k hk).1),row_other hr2 _ _ (fun k' hk'=>by cases hk';exact hg.1),row_other h.rw _ _ (fun k hk=>by cases hk;exact h.gb),h.gb,h.sb,(fun k' hk'=>by cases hk';exact hg),h.small,h.nr,h.vw⟩
/-- One place more. -/
theorem TabM.grow (h:TabM w p t) {w':World} {v':Value} {z:Slot} (hr:w'.ownsRow 0 122 4 v' (t.n+1) (srow t.sl t.n ++ scell z)) (hg:w.grownBy w' p.vs.ownBlock) (hv:∀ k,v'.ownBlock=some k→p.vs.ownBlock=some k∨w.heap.size≤k) (hn:t.n+1≤t.room) :
  TabM (w'.setCell ⟨p.b,1,none⟩ v') { p with vs:=v' } { t with n:=t.n+1,sl:=upd t.sl t.n z }:=by
 have lb:=h.lt p.b (.inl rfl)
 have lg:=h.lt p.g (.inr (.inl rfl))
 have hb0:w'.heap[p.b]?=w.heap[p.b]?:=hg.block p.b lb (fun e=>(h.sb p.b e.symm).1 rfl)
 have hc0:∀ i v',w.cell? ⟨p.b,i,none⟩=some v'→w'.cell? ⟨p.b,i,none⟩=some v':=fun i v' hi=>by rw[World.cell?_of_block hb0];exact hi
 have hc:∀ i u,i≠1→w.cell? ⟨p.b,i,none⟩=some u→(w'.setCell ⟨p.b,1,none⟩ v').cell? ⟨p.b,i,none⟩=some u:=fun i u hi hv=>by
  rw[World.cell?_setCell_other _ _ _ _ (by simp;try omega)];exact hc0 i u hv
 have hnew:∀ k,v'.ownBlock=some k→k≠p.b∧k≠p.g:=fun k hk=>by
  rcases hv k hk with e|e
  ·exact h.sb k e
  ·exact⟨by omega,by omega⟩
 have hrs:w'.ownsRow 0 122 4 v' (t.n+1) (srow (upd t.sl t.n z) (t.n+1)):=by
  show w'.ownsRow 0 122 4 v' (t.n+1) (srow (upd t.sl t.n z) t.n ++ scell (upd t.sl t.n z t.n))
  rw[upd_same,srow_congr t.n (fun k hk=>upd_ne t.sl z (show k≠t.n by omega))]
  exact hr
 have hrf:w'.ownsRow 0 3 1 p.vf t.free.length (frow t.free):=h.rf.kept hg (by
  cases e:p.vf.ownBlock with
  | none=>exact .inl rfl
  | some k=>exact .inr (fun e2=>(h.fb k e).2.2 e2.symm))
 have hrw:w'.ownsRow 0 3 1 (.slice (some ⟨p.g,0,none⟩) t.W t.W) t.W (wrow t.ways t.W):=h.rw.kept hg (.inr (fun e=>(h.sb p.g e.symm).2 rfl))
 exact ⟨hc _ _ (by omega) h.c0,World.cell?_setCell_same' w' _ _ (by rw[hc0 1 _ h.c1];rfl),hc _ _ (by omega) h.c2,hc _ _ (by omega) h.c3,hc _ _ (by omega) h.c4,hc _ _ (by omega) h.c5,fun i hi=>by rw[World.frozen?_setCell,World.frozen?_of_block hb0];exact h.fz i hi,
  row_other hrs _ _ (fun k hk=>(hnew k hk).1),row_other hrf _ _ (fun k hk=>(h.fb k hk).1),row_other hrw _ _ (fun k hk=>by cases hk;exact h.gb),h.gb,hnew,(fun k hk=>⟨(h.fb k hk).1,(h.fb k hk).2.1,fun e=>by
   rcases hv k e with e2|e2
   ·exact(h.fb k hk).2.2 e2
   ·have:=h.lt k (.inr (.inr (.inr hk)));omega⟩),h.small,hn,fun i hi=>Nat.le_succ_of_le (h.vw i hi)⟩
/-- A place is filled. -/
theorem TabM.fill (h:TabM w p t) {q c k:Nat} {s:ByteArray} {v:Int} (hv:p.vs=.slice (some ⟨q,0,none⟩) t.n c) (hk:k<t.n) :
  TabM ((((w.setCell ⟨q,k*4,none⟩ (.string s)).setCell ⟨q,k*4+1,none⟩ (.int .i64 v)).setCell ⟨q,k*4+2,none⟩ (.int .i64 0)).setCell ⟨q,k*4+3,none⟩ (.int .i64 0)) p { t with sl:=upd t.sl k ⟨s.data.toList,v,0,0⟩ }:=by
 have h1:=h.setSlot (k:=k) (j:=0) (u:=.string s) (s := { t.sl k with key:=s.data.toList }) hv hk (by omega) (by unfold scell;rw[ktx_data];rfl)
 have h2:=h1.setSlot (k:=k) (j:=1) (u:=.int .i64 v) (s:=⟨s.data.toList,v,(t.sl k).prev,(t.sl k).next⟩) hv hk (by omega) (by show(scell (upd t.sl k _ k)).set 1 _=_;rw[upd_same];rfl)
 have h3:=h2.setSlot (k:=k) (j:=2) (u:=.int .i64 0) (s:=⟨s.data.toList,v,0,(t.sl k).next⟩) hv hk (by omega) (by show(scell (upd _ k _ k)).set 2 _=_;rw[upd_same];rfl)
 have h4:=h3.setSlot (k:=k) (j:=3) (u:=.int .i64 0) (s:=⟨s.data.toList,v,0,0⟩) hv hk (by omega) (by show(scell (upd _ k _ k)).set 3 _=_;rw[upd_same];rfl)
 dsimp only at h4
 rw[upd_upd,upd_upd,upd_upd] at h4
 exact h4
end
end Go.Proofs.YtmhikkbdhboodaaGreat
