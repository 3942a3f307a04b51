/- A statement whose operations may come in any order, and of which each leaves what was there before: one proof an operation serves every order. Of no program. -/
import Derived.RegionTactic
import Derived.Tactics
import Derived.Below
set_option linter.unusedSimpArgs false
set_option linter.unusedVariables false
set_option maxRecDepth 100000
namespace Go.Flow
open Go Go.RowKit

variable {P:Program} {Q:Exit→Act→World→Prop}

def putAll : List Oper→(Nat→Value)→Nat→Act→Act
 | [],_,_,a=>a
 | o::r,xs,i,a=>putAll r xs (i+1) (a.put o.dst (xs i))
def other : Option Tmp→Option Tmp→Bool
 | some d,some e=>d != e
 | _,_=>true
def apartFrom (dst:Option Tmp):List Oper→Bool
 | []=>true
 | o::r=>other dst o.dst&&apartFrom dst r
def distinct : List Oper→Bool
 | []=>true
 | o::r=>apartFrom o.dst r&&distinct r
theorem put_comm {a:Act} {x y:Option Tmp} (v u:Value) (h:other x y=true):(a.put x v).put y u=(a.put y u).put x v:=by
 refine Act.put_comm a v u fun d hd hy=>?_
 subst hd hy
 simp[other] at h
theorem put_twice (a:Act) (x:Option Tmp) (v u:Value):(a.put x v).put x u=a.put x u:=by
 cases x with
 | none=>rfl
 | some d=>simp[Act.put,Array.setIfInBounds_setIfInBounds]
theorem put_own (a:Act) (x:Option Tmp):∃v,a.put x v=a:=by
 cases x with
 | none=>exact ⟨undef,rfl⟩
 | some d=>
  refine ⟨a.tmps.getD d undef,?_⟩
  have e:a.tmps.setIfInBounds d (a.tmps.getD d undef)=a.tmps:=by
   rcases Nat.lt_or_ge d a.tmps.size with h | h
   ·apply Array.ext
    ·simp
    ·intro i h1 h2
     rw[Array.getElem_setIfInBounds]
     split
     ·next e=>subst e; simp
     ·rfl
   ·exact Array.setIfInBounds_eq_of_size_le h
  show ({ a with tmps:=a.tmps.setIfInBounds d (a.tmps.getD d undef) }:Act)=a
  rw[e]
theorem putAll_put : ∀(r:List Oper) (xs:Nat→Value) (k:Nat) (a:Act) (x:Option Tmp) (v:Value),apartFrom x r=true→(putAll r xs k a).put x v=putAll r xs k (a.put x v)
 | [],_,_,_,_,_,_=>rfl
 | o::r,xs,k,a,x,v,h=>by
  rw[apartFrom,Bool.and_eq_true] at h
  rw[putAll,putAll,putAll_put r xs (k+1) _ x v h.2]
  congr 1
  refine (put_comm v (xs k) ?_).symm
  exact h.1
theorem putAll_congr : ∀(r:List Oper) (xs ys:Nat→Value) (k:Nat) (a:Act),(∀j,k≤j→xs j=ys j)→putAll r xs k a=putAll r ys k a
 | [],_,_,_,_,_=>rfl
 | o::r,xs,ys,k,a,h=>by
  rw[putAll,putAll,h k (Nat.le_refl _)]
  exact putAll_congr r xs ys (k+1) _ fun j hj=>h j (by omega)
def upd (xs:Nat→Value) (i:Nat) (v:Value):Nat→Value:=fun j=>if j=i then v else xs j
theorem putAll_upd : ∀(r:List Oper) (xs:Nat→Value) (k i:Nat) (a:Act) (v:Value) (o:Oper),distinct r=true→r[i]?=some o→(putAll r xs k a).put o.dst v=putAll r (upd xs (k+i) v) k a
 | [],_,_,_,_,_,_,_,h=>by simp at h
 | p::r,xs,k,0,a,v,o,hd,h=>by
  simp only[List.getElem?_cons_zero,Option.some.injEq] at h
  subst h
  rw[distinct,Bool.and_eq_true] at hd
  rw[putAll,putAll,putAll_put r xs (k+1) _ _ v hd.1,put_twice]
  have e:upd xs (k+0) v k=v:=by simp[upd]
  rw[e]
  refine putAll_congr r _ _ (k+1) _ fun j hj=>?_
  unfold upd
  rw[if_neg (by omega)]
 | p::r,xs,k,i+1,a,v,o,hd,h=>by
  rw[distinct,Bool.and_eq_true] at hd
  rw[putAll,putAll,putAll_upd r xs (k+1) i _ v o hd.2 (by simpa using h)]
  have e:upd xs (k+(i+1)) v k=xs k:=by unfold upd; rw[if_neg (by omega)]
  rw[e,show k+1+i=k+(i+1) by omega]
theorem putAll_own : ∀(r:List Oper) (k:Nat) (a:Act),∃xs,putAll r xs k a=a
 | [],_,_=>⟨fun _=>undef,rfl⟩
 | o::r,k,a=>by
  obtain ⟨v,hv⟩:=put_own a o.dst
  obtain ⟨xs,hx⟩:=putAll_own r (k+1) a
  refine ⟨upd xs k v,?_⟩
  have e:upd xs k v k=v:=by simp[upd]
  rw[putAll,e,hv]
  refine (putAll_congr r _ xs (k+1) _ fun j hj=>?_).trans hx
  unfold upd
  rw[if_neg (by omega)]

def depOn (o:Oper) (j:Nat):Bool:=o.after.any fun e=>Region.binds .any e&&e.on==j
def waits (l:List Oper) (i j:Nat):Bool:=match l[i]? with | some o=>depOn o j | none=>false
def cover (l:List Oper):Nat→List Nat→List Nat
 | 0,S=>S
 | k+1,S=>cover l k (if S.any (fun s=>waits l s k) then k::S else S)
theorem cover_sub (l:List Oper) (L:Nat→Prop) (hL:∀s,L s→∀j,waits l s j=true→L j):∀(k:Nat) (S:List Nat),(∀s∈S,∀j,waits l s j=true→L j)→∀s∈cover l k S,s∈S∨L s
 | 0,S,_,s,hs=>.inl hs
 | k+1,S,h,s,hs=>by
  unfold cover at hs
  by_cases hk:S.any (fun s=>waits l s k)=true
  ·rw[if_pos hk] at hs
   obtain ⟨q,hq,hw⟩:=List.any_eq_true.1 hk
   have hLk:L k:=h q hq k hw
   rcases cover_sub l L hL k (k::S) (fun t ht j hj=>by
    rcases List.mem_cons.1 ht with rfl | ht
    ·exact hL _ hLk j hj
    ·exact h t ht j hj) s hs with h1 | h1
   ·rcases List.mem_cons.1 h1 with rfl | h2
    ·exact .inr hLk
    ·exact .inl h2
   ·exact .inr h1
  ·rw[if_neg hk] at hs
   exact cover_sub l L hL k S h s hs
def topo : List Oper→Nat→Bool
 | [],_=>true
 | o::r,i=>(o.after.all fun e=>!Region.binds .any e || decide (e.on<i))&&topo r (i+1)
theorem topo_at : ∀{l:List Oper} {k:Nat},topo l k=true→∀{i j:Nat},waits l i j=true→j<k+i
 | [],k,_,i,j,h=>by simp[waits] at h
 | o::r,k,ht,0,j,h=>by
  rw[topo,Bool.and_eq_true] at ht
  simp only[waits,List.getElem?_cons_zero,depOn] at h
  obtain ⟨e,he,hb⟩:=Array.any_eq_true'.1 h
  simp only[Bool.and_eq_true,beq_iff_eq] at hb
  have:=Array.all_eq_true_iff_forall_mem.1 ht.1 e he
  simp only[hb.1,Bool.not_true,Bool.false_or,decide_eq_true_eq] at this
  omega
 | o::r,k,ht,i+1,j,h=>by
  rw[topo,Bool.and_eq_true] at ht
  have h2:waits r i j=true:=by simpa[waits] using h
  have:=topo_at ht.2 h2
  omega
def fits (l:List Oper) (m:Nat):Bool:=
 distinct (l.take m)&&decide (m≤l.length)&&topo (l.take m) 0 &&
 (List.range l.length).all fun i=>decide (i<m) || (List.range m).all fun j=>(cover l l.length [i]).contains j
def Step (W:Nat→Nat→Bool) (P:Program) (l:List Oper) (m:Nat) (Q:Exit→Act→World→Prop) (w0:World) (a0:Act) (T:Nat→Value→World→Prop) (i:Nat):Prop:=
 ∀o,l[i]?=some o→∀(xs:Nat→Value) (w:World),Below w0.heap.size w0 w→(∀j,W i j=true→T j (xs j) w)→∀K:Act→World→Prop,
  (∀v w',Below w.heap.size w w'→T i v w'→K ((putAll (l.take m) xs 0 a0).put o.dst v) w') →
  if Region.wanted o (yielded l.toArray (putAll (l.take m) xs 0 a0).tmps)=true then Oper.wp P o (putAll (l.take m) xs 0 a0) w K Q else K ((putAll (l.take m) xs 0 a0).put o.dst undef) w
theorem Step.of {W:Nat→Nat→Bool} {l:List Oper} {m:Nat} {w0:World} {a0:Act} {T:Nat→Value→World→Prop} {i:Nat} {o:Oper} (ho:l[i]?=some o)
  (h:∀(xs:Nat→Value) (w:World),Below w0.heap.size w0 w→(∀j,W i j=true→T j (xs j) w)→∀K:Act→World→Prop,
   (∀v w',Below w.heap.size w w'→T i v w'→K ((putAll (l.take m) xs 0 a0).put o.dst v) w') →
   if Region.wanted o (yielded l.toArray (putAll (l.take m) xs 0 a0).tmps)=true then Oper.wp P o (putAll (l.take m) xs 0 a0) w K Q else K ((putAll (l.take m) xs 0 a0).put o.dst undef) w)   : Step W P l m Q w0 a0 T i:=fun p hp=>by
 rw[ho,Option.some.injEq] at hp
 subst hp
 exact h
def Steps (S:Nat→Prop):List Nat→Prop
 | []=>True
 | i::r=>S i∧Steps S r
theorem Steps.nil {S:Nat→Prop}:Steps S []:=trivial
theorem Steps.cons {S:Nat→Prop} {i:Nat} {r:List Nat} (h:S i) (hr:Steps S r):Steps S (i::r):=⟨h,hr⟩
theorem Steps.at {S:Nat→Prop}:∀{r:List Nat},Steps S r→∀i∈r,S i
 | [],_,i,h=>by cases h
 | k::r,hs,i,h=>by
  rcases List.mem_cons.1 h with rfl | h
  ·exact hs.1
  ·exact Steps.at hs.2 i h
def flags (n m:Nat):Array Bool:=((List.range n).map fun i=>decide (i<m)).toArray

section
variable {l:List Oper} {m:Nat} {w0:World} {a0:Act} {T:Nat→Value→World→Prop}

def undone (m:Nat) (listed:Array Bool):Nat:=((List.range m).filter fun j=>!listed.getD j true).length
structure Inv (l:List Oper) (m:Nat) (w0:World) (a0:Act) (T:Nat→Value→World→Prop) (listed:Array Bool) (a:Act) (w:World):Prop where
 size:listed.size=l.length
 below:Below w0.heap.size w0 w
 vals:∃xs,a=putAll (l.take m) xs 0 a0∧∀j,j<m→listed.getD j false=true→T j (xs j) w
 later:∀j,m≤j→j<l.length→listed.getD j true=false
 closed:∀i,i<m→listed.getD i false=true→∀j,waits l i j=true→listed.getD j false=true

theorem getD_both {listed:Array Bool} {j:Nat} (h:j<listed.size):listed.getD j true=listed.getD j false:=by simp[h]
theorem ready_iff {listed:Array Bool} {i:Nat}:i∈Region.ready .any l.toArray listed↔listed.getD i true=false∧i<l.length∧∀j,waits l i j=true→listed.getD j false=true:=by
 rw[mem_ready]
 refine and_congr_right fun _=>?_
 constructor
 ·rintro ⟨o,ho,h⟩
  have ho':l[i]?=some o:=by simpa using ho
  refine ⟨(List.getElem?_eq_some_iff.1 ho').1,fun j hj=>?_⟩
  unfold waits at hj
  rw[ho'] at hj
  unfold depOn at hj
  obtain ⟨e,he,hb⟩:=Array.any_eq_true'.1 hj
  simp only[Bool.and_eq_true,beq_iff_eq] at hb
  rw[←hb.2]
  exact h e he hb.1
 ·rintro ⟨hlt,h⟩
  refine ⟨l[i],by simp[hlt],fun e he hb=>h e.on ?_⟩
  unfold waits
  rw[List.getElem?_eq_getElem hlt]
  unfold depOn
  exact Array.any_eq_true'.2 ⟨e,he,by simp[hb]⟩
theorem undone_set {listed:Array Bool} {i:Nat} (hi:i<m) (hs:i<listed.size) (h0:listed.getD i true=false):undone m listed=undone m (listed.setIfInBounds i true)+1:=by
 unfold undone
 have hone:∀(p:Nat→Bool) (n:Nat),([n].filter p).length=if p n=true then 1 else 0:=fun p n=>by
  cases h:p n<;>simp[h]
 have key:∀n,((List.range n).filter fun j=>!listed.getD j true).length=((List.range n).filter fun j=>!(listed.setIfInBounds i true).getD j true).length+(if i<n then 1 else 0):=by
  intro n
  induction n with
  | zero=>simp
  | succ n ih=>
   rw[List.range_succ,List.filter_append,List.filter_append,List.length_append,List.length_append,ih,hone,hone]
   by_cases e:i=n
   ·subst e
    have e1:(listed.setIfInBounds i true).getD i true=true:=by simp[hs]
    have l1:¬i<i:=by omega
    have l2:i<i+1:=by omega
    rw[h0,e1,if_neg l1,if_pos l2]
    rfl
   ·have e1:(listed.setIfInBounds i true).getD n true=listed.getD n true:=getD_set_ne true e
    rw[e1]
    by_cases hlt:i<n
    ·have l2:i<n+1:=by omega
     rw[if_pos hlt,if_pos l2]; omega
    ·have l2:¬i<n+1:=by omega
     rw[if_neg hlt,if_neg l2]; omega
 rw[key m,if_pos hi]
theorem undone_zero {listed:Array Bool} (h:undone m listed=0) {j:Nat} (hj:j<m):listed.getD j true=true:=by
 unfold undone at h
 rw[List.length_eq_zero_iff,List.filter_eq_nil_iff] at h
 have:=h j (List.mem_range.2 hj)
 simpa using this
theorem least (p:Nat→Prop) [DecidablePred p]:∀n,p n→∃k,k≤n∧p k∧∀j,j<k→¬p j:=by
 intro n
 induction n using Nat.strongRecOn with
 | _ n ih=>
  intro h
  by_cases h2:∃j,j<n∧p j
  ·obtain ⟨j,hj,hp⟩:=h2
   obtain ⟨k,hk,h3⟩:=ih j hj hp
   exact ⟨k,by omega,h3⟩
  ·exact ⟨n,Nat.le_refl _,h,fun j hj hp=>h2 ⟨j,hj,hp⟩⟩
theorem flow_any (hfit:fits l m=true) (hst:∀i v w w',T i v w→Below w.heap.size w w'→T i v w') (hstep:∀i,i<m→Step (waits l) P l m Q w0 a0 T i)
  (hend:∀xs w,Below w0.heap.size w0 w→(∀j,j<m→T j (xs j) w)→wpAny P .any l.toArray Q (l.length-m) (flags l.length m) (putAll (l.take m) xs 0 a0) w) :
  ∀(c:Nat) (listed:Array Bool) (a:Act) (w:World),undone m listed=c→Inv l m w0 a0 T listed a w→wpAny P .any l.toArray Q (c+(l.length-m)) listed a w:=by
 simp only[fits,Bool.and_eq_true,decide_eq_true_eq,List.all_eq_true,List.mem_range,Bool.or_eq_true,List.contains_iff_mem] at hfit
 obtain ⟨⟨⟨hdis,hm⟩,htopo0⟩,hlast⟩:=hfit
 have htopo:∀i,i<m→∀j,waits l i j=true→j<i:=fun i hi j hj=>by
  have h1:waits (l.take m) i j=true:=by
   unfold waits at hj⊢
   rw[List.getElem?_take_of_lt hi]
   exact hj
  have:=topo_at htopo0 h1
  omega
 have hwl:∀i j,waits l i j=true→i<l.length:=fun i j h=>by
  unfold waits at h
  rcases Nat.lt_or_ge i l.length with h1 | h1
  ·exact h1
  ·rw[List.getElem?_eq_none h1] at h; cases h
 intro c
 induction c with
 | zero=>
  intro listed a w hc hI
  obtain ⟨xs,rfl,hx⟩:=hI.vals
  have hall:∀j,j<m→listed.getD j false=true:=fun j hj=>by
   rw[←getD_both (by rw[hI.size]; omega)]
   exact undone_zero hc hj
  have e:listed=flags l.length m:=by
   have hsz:=hI.size
   ext i h1 h2
   ·simp[flags,hsz]
   ·have h3:(flags l.length m)[i]=decide (i<m):=by simp[flags]
    rw[h3]
    by_cases hi:i<m
    ·have:=hall i hi
     simp only[Array.getD_eq_getD_getElem?,Array.getElem?_eq_getElem h1,Option.getD_some] at this
     rw[this]; simp[hi]
    ·have:=hI.later i (by omega) (by omega)
     simp only[Array.getD_eq_getD_getElem?,Array.getElem?_eq_getElem h1,Option.getD_some] at this
     rw[this]; simp[hi]
  rw[e,Nat.zero_add]
  exact hend xs w hI.below fun j hj=>hx j hj (hall j hj)
 | succ c ih=>
  intro listed a w hc hI
  rw[show c+1+(l.length-m)=c+(l.length-m)+1 by omega]
  have hex:∃i,i<m∧listed.getD i true=false:=by
   apply Classical.byContradiction
   intro hno
   have:undone m listed=0:=by
    unfold undone
    rw[List.length_eq_zero_iff,List.filter_eq_nil_iff]
    intro j hj
    have hjm:=List.mem_range.1 hj
    cases h:listed.getD j true with
    | true=>simp
    | false=>exact absurd ⟨j,hjm,h⟩ hno
   omega
  refine ⟨fun hr=>?_,fun i hi=>?_⟩
  ·obtain ⟨i,him,hi⟩:=hex
   obtain ⟨k,hk1,hk2,hk3⟩:=least (fun i=>listed.getD i true=false) i hi
   have:k∈Region.ready .any l.toArray listed:=by
    refine ready_iff.2 ⟨hk2,by omega,fun j hj=>?_⟩
    have hjl:j<k:=htopo k (by omega) j hj
    have:=hk3 j hjl
    rw[←getD_both (by rw[hI.size]; omega)]
    simpa using this
   rw[hr] at this
   cases this
  ·obtain ⟨h0,hlt,hw⟩:=ready_iff.1 hi
   have him:i<m:=by
    rcases Nat.lt_or_ge i m with h | h
    ·exact h
    ·exfalso
     obtain ⟨k,hkm,hk⟩:=hex
     have hcov:=(hlast i hlt).resolve_left (by omega) k hkm
     have:=cover_sub l (fun s=>listed.getD s false=true) (fun s hs j hj=>by
      rcases Nat.lt_or_ge s m with h1 | h1
      ·exact hI.closed s h1 hs j hj
      ·have h2:=hI.later s h1 (hwl s j hj)
       rw[getD_both (by rw[hI.size]; exact hwl s j hj)] at h2
       rw[hs] at h2
       cases h2) l.length [i] (fun s hs j hj=>by
      rw[List.mem_singleton.1 hs] at hj
      exact hw j hj) k hcov
     rcases this with h1 | h1
     ·rw[List.mem_singleton] at h1
      omega
     ·rw[getD_both (by rw[hI.size]; omega),h1] at hk
      cases hk
   obtain ⟨xs,rfl,hx⟩:=hI.vals
   have hsz:i<listed.size:=by rw[hI.size]; exact hlt
   have hoi:l[i]?=some l[i]:=List.getElem?_eq_getElem hlt
   refine wpOp_step (o:=l[i]) (by simp[hlt]) fun K hK=>?_
   refine hstep i him _ hoi xs w hI.below (fun j hj=>?_) K fun v w' hb ht=>hK _ _ (ih _ _ _ ?_ ?_)
   ·have hjl:=hw j hj
    have hjm:j<m:=by have:=htopo i him j hj; omega
    exact hx j hjm hjl
   ·have:=undone_set him hsz h0
    omega
   ·refine ⟨by rw[Array.size_setIfInBounds]; exact hI.size,hI.below.trans (hb.mono hI.below.size),⟨upd xs i v,?_,fun j hjm hj=>?_⟩,fun j h1 h2=>?_,fun k hkm hk j hj=>?_⟩
    ·have:=putAll_upd (l.take m) xs 0 i a0 v l[i] hdis (by rw[List.getElem?_take_of_lt him]; exact hoi)
     rw[Nat.zero_add] at this
     exact this
    ·by_cases e:j=i
     ·subst e
      have:upd xs j v j=v:=by simp[upd]
      rw[this]
      exact ht
     ·have e1:upd xs i v j=xs j:=by unfold upd; rw[if_neg e]
      rw[e1]
      rw[getD_set_ne false (Ne.symm e)] at hj
      exact hst j _ _ _ (hx j hjm hj) hb
    ·rw[getD_set_ne true (by omega)]
     exact hI.later j h1 h2
    ·by_cases e:k=i
     ·subst e
      exact getD_set_true (hw j hj)
     ·rw[getD_set_ne false (Ne.symm e)] at hk
      exact getD_set_true (hI.closed k hkm hk j hj)
theorem wp_region_flow {id:Nat} {ops:Array Oper} {a:Act} {w:World} (is:List Nat) (m:Nat) (T:Nat→Value→World→Prop) (his:is=List.range m) (hl:ops=l.toArray) (hmix:P.follows .mixedOrders=true) (hfit:fits l m=true)
  (hst:∀i v w w',T i v w→Below w.heap.size w w'→T i v w') (hstep:Steps (Step (waits l) P l m Q w.drew a T) is)
  (hend:∀xs w',Below w.drew.heap.size w.drew w'→(∀j,j<m→T j (xs j) w')→wpAny P .any l.toArray Q (l.length-m) (flags l.length m) (putAll (l.take m) xs 0 a) w'):(Code.region id ops true).wp P Q a w:=by
 subst hl
 refine wp_region_any hmix ?_
 change wpAny P .any l.toArray Q l.toArray.size _ a w.drew
 have hfit':=hfit
 simp only[fits,Bool.and_eq_true,decide_eq_true_eq] at hfit'
 have hm:=hfit'.1.1.2
 have hsz:l.toArray.size=m+(l.length-m):=by simp; omega
 rw[hsz]
 have hg:∀j,j<m+(l.length-m)→∀d,(Array.replicate (m+(l.length-m)) false).getD j d=false:=fun j hj d=>by simp[hj]
 have hgf:∀j,(Array.replicate (m+(l.length-m)) false).getD j false=false:=fun j=>by
  rcases Nat.lt_or_ge j (m+(l.length-m)) with h | h
  ·exact hg j h false
  ·rw[Array.getD_eq_getD_getElem?,Array.getElem?_eq_none (by simpa using h)]
   rfl
 refine flow_any hfit hst (fun i hi=>Steps.at hstep i (by rw[his]; exact List.mem_range.2 hi)) hend m _ a w.drew ?_ ?_
 ·unfold undone
  rw[List.filter_eq_self.2 fun j hj=>by rw[hg j (by have:=List.mem_range.1 hj; omega)]; rfl,List.length_range]
 ·obtain ⟨xs,hx⟩:=putAll_own (l.take m) 0 a
  refine ⟨by simp; omega,Below.refl _ _,⟨xs,hx.symm,fun j _ hj=>?_⟩,fun j _ h2=>hg j (by omega) true,fun i _ hi=>?_⟩
  ·rw[hgf] at hj; cases hj
  ·rw[hgf] at hi; cases hi
theorem seq_flow {a0:Act} {w0:World} (hdis:distinct (l.take m)=true) (hm:m≤l.length) (hst:∀i v w w',T i v w→Below w.heap.size w w'→T i v w') (hstep:∀i,i<m→Step (fun i j=>decide (j<i)) P l m Q w0 a0 T i)
  (hend:∀xs w',Below w0.heap.size w0 w'→(∀j,j<m→T j (xs j) w')→wpList P l.toArray Q (l.drop m) (putAll (l.take m) xs 0 a0) w') :
  ∀(c k:Nat) (xs:Nat→Value) (w:World),k+c=m→Below w0.heap.size w0 w→(∀j,j<k→T j (xs j) w)→wpList P l.toArray Q (l.drop k) (putAll (l.take m) xs 0 a0) w:=by
 intro c
 induction c with
 | zero=>
  intro k xs w hk hb hT
  obtain rfl:k=m:=by omega
  exact hend xs w hb hT
 | succ c ih=>
  intro k xs w hk hb hT
  have hlt:k<l.length:=by omega
  have hok:l[k]?=some l[k]:=List.getElem?_eq_getElem hlt
  rw[List.drop_eq_getElem_cons hlt,wpList]
  have h:=hstep k (by omega) _ hok xs w hb (fun j hj=>hT j (by simpa using hj)) (wpList P l.toArray Q (l.drop (k+1))) fun v w' hb' ht=>by
   have e:=putAll_upd (l.take m) xs 0 k a0 v l[k] hdis (by rw[List.getElem?_take_of_lt (by omega)]; exact hok)
   rw[Nat.zero_add] at e
   rw[e]
   refine ih (k+1) _ w' (by omega) (hb.trans (hb'.mono hb.size)) fun j hj=>?_
   by_cases ej:j=k
   ·subst ej
    have e1:upd xs j v j=v:=by simp[upd]
    rw[e1]
    exact ht
   ·have e1:upd xs k v j=xs j:=by unfold upd; rw[if_neg ej]
    rw[e1]
    exact hst j _ _ _ (hT j (by omega)) hb'
  split
  ·next hw=>rw[if_pos hw] at h; exact .inl h
  ·next hw=>rw[if_neg hw] at h; exact h
theorem wp_region_seq {id:Nat} {ops:Array Oper} {a:Act} {w:World} (is:List Nat) (m:Nat) (T:Nat→Value→World→Prop) (his:is=List.range m) (hl:ops=l.toArray) (hdis:distinct (l.take m)=true) (hm:decide (m≤l.length)=true)
  (hst:∀i v w w',T i v w→Below w.heap.size w w'→T i v w') (hstep:Steps (Step (fun i j=>decide (j<i)) P l m Q w a T) is)
  (hend:∀xs w',Below w.heap.size w w'→(∀j,j<m→T j (xs j) w')→wpList P l.toArray Q (l.drop m) (putAll (l.take m) xs 0 a) w'):(Code.region id ops false).wp P Q a w:=by
 subst hl
 refine wp_region_list ?_
 obtain ⟨xs,hx⟩:=putAll_own (l.take m) 0 a
 have h:=seq_flow (a0:=a) (w0:=w) hdis (of_decide_eq_true hm) hst (fun i hi=>Steps.at hstep i (by rw[his]; exact List.mem_range.2 hi)) hend m 0 xs w (by omega) (Below.refl _ _) (fun j hj=>absurd hj (by omega))
 rw[hx,List.drop_zero] at h
 exact h
end
theorem hwD {a b c:World} (h:Below a.heap.size a b) (hb:Below b.drew.heap.size b.drew c):Below a.heap.size a c:=h.trans (Below.mono (((Below.refl _ b).drew).trans hb) h.size)
theorem hwP {a b c:World} (h:Below a.heap.size a b) (hb:Below b.heap.size b c):Below a.heap.size a c:=h.trans (hb.mono h.size)
end Go.Flow

