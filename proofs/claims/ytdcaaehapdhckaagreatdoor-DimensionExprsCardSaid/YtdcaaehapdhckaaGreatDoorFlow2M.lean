/- A statement that draws the order of its operations: some of them, chosen by a mask, keep a relation between the worlds and come in whatever order; the others follow one another behind them. One proof an operation serves every order. Of no program. -/
import Derived.Test.YtdcaaehapdhckaaGreatDoorFlowM
import Derived.StillTail
set_option linter.unusedSimpArgs false
set_option linter.unusedVariables false
set_option maxRecDepth 100000
namespace Go.FlowR
open Go Go.RowKit
open Go.Flow (upd waits cover cover_sub other put_comm put_twice put_own ready_iff least)

variable {P:Program} {Q:Exit→Act→World→Prop}

def selAt (ms:List Bool) (i:Nat):Bool:=ms.getD i false
def putSel : List Bool→List Oper→(Nat→Value)→Nat→Act→Act
 | true::ms,o::r,xs,i,a=>putSel ms r xs (i+1) (a.put o.dst (xs i))
 | false::ms,_::r,xs,i,a=>putSel ms r xs (i+1) a
 | _,_,_,_,a=>a
def apartS (dst:Option Tmp):List Bool→List Oper→Bool
 | true::ms,o::r=>other dst o.dst&&apartS dst ms r
 | false::ms,_::r=>apartS dst ms r
 | _,_=>true
def distinctS : List Bool→List Oper→Bool
 | true::ms,o::r=>apartS o.dst ms r&&distinctS ms r
 | false::ms,_::r=>distinctS ms r
 | _,_=>true
def restL : List Bool→List Oper→List Oper
 | true::ms,_::r=>restL ms r
 | false::ms,o::r=>o::restL ms r
 | _,r=>r
def restI : List Bool→List Oper→Nat→List Nat
 | true::ms,_::r,k=>restI ms r (k+1)
 | false::ms,_::r,k=>k::restI ms r (k+1)
 | _,r,k=>(List.range r.length).map (k + ·)
theorem putSel_put : ∀(ms:List Bool) (r:List Oper) (xs:Nat→Value) (k:Nat) (a:Act) (x:Option Tmp) (v:Value),apartS x ms r=true→(putSel ms r xs k a).put x v=putSel ms r xs k (a.put x v)
 | [],_,_,_,_,_,_,_=>by simp only[putSel]
 | _::_,[],_,_,_,_,_,_=>by simp only[putSel]
 | true::ms,o::r,xs,k,a,x,v,h=>by
  rw[apartS,Bool.and_eq_true] at h
  rw[putSel,putSel,putSel_put ms r xs (k+1) _ x v h.2]
  congr 1
  exact (put_comm v (xs k) h.1).symm
 | false::ms,o::r,xs,k,a,x,v,h=>by
  rw[apartS] at h
  rw[putSel,putSel]
  exact putSel_put ms r xs (k+1) a x v h
theorem putSel_congr : ∀(ms:List Bool) (r:List Oper) (xs ys:Nat→Value) (k:Nat) (a:Act),(∀j,k≤j→xs j=ys j)→putSel ms r xs k a=putSel ms r ys k a
 | [],_,_,_,_,_,_=>by simp only[putSel]
 | _::_,[],_,_,_,_,_=>by simp only[putSel]
 | true::ms,o::r,xs,ys,k,a,h=>by
  rw[putSel,putSel,h k (Nat.le_refl _)]
  exact putSel_congr ms r xs ys (k+1) _ fun j hj=>h j (by omega)
 | false::ms,o::r,xs,ys,k,a,h=>by
  rw[putSel,putSel]
  exact putSel_congr ms r xs ys (k+1) _ fun j hj=>h j (by omega)
theorem putSel_upd : ∀(ms:List Bool) (r:List Oper) (xs:Nat→Value) (k i:Nat) (a:Act) (v:Value) (o:Oper),distinctS ms r=true→selAt ms i=true→r[i]?=some o→(putSel ms r xs k a).put o.dst v=putSel ms r (upd xs (k+i) v) k a
 | [],_,_,_,_,_,_,_,_,h,_=>by simp[selAt] at h
 | _::_,[],_,_,_,_,_,_,_,_,h=>by simp at h
 | true::ms,p::r,xs,k,0,a,v,o,hd,_,h=>by
  simp only[List.getElem?_cons_zero,Option.some.injEq] at h
  subst h
  rw[distinctS,Bool.and_eq_true] at hd
  rw[putSel,putSel,putSel_put ms r xs (k+1) _ _ v hd.1,put_twice]
  have e:upd xs (k+0) v k=v:=by simp[upd]
  rw[e]
  refine putSel_congr ms r _ _ (k+1) _ fun j hj=>?_
  unfold upd
  rw[if_neg (by omega)]
 | false::ms,p::r,xs,k,0,a,v,o,hd,hs,h=>by simp[selAt] at hs
 | true::ms,p::r,xs,k,i+1,a,v,o,hd,hs,h=>by
  rw[distinctS,Bool.and_eq_true] at hd
  rw[putSel,putSel,putSel_upd ms r xs (k+1) i _ v o hd.2 (by simpa[selAt] using hs) (by simpa using h)]
  have e:upd xs (k+(i+1)) v k=xs k:=by unfold upd; rw[if_neg (by omega)]
  rw[e,show k+1+i=k+(i+1) by omega]
 | false::ms,p::r,xs,k,i+1,a,v,o,hd,hs,h=>by
  rw[distinctS] at hd
  rw[putSel,putSel,putSel_upd ms r xs (k+1) i _ v o hd (by simpa[selAt] using hs) (by simpa using h),show k+1+i=k+(i+1) by omega]
theorem putSel_own : ∀(ms:List Bool) (r:List Oper) (k:Nat) (a:Act),∃xs,putSel ms r xs k a=a
 | [],_,_,_=>⟨fun _=>undef,by simp only[putSel]⟩
 | _::_,[],_,_=>⟨fun _=>undef,by simp only[putSel]⟩
 | true::ms,o::r,k,a=>by
  obtain ⟨v,hv⟩:=put_own a o.dst
  obtain ⟨xs,hx⟩:=putSel_own ms r (k+1) a
  refine ⟨upd xs k v,?_⟩
  have e:upd xs k v k=v:=by simp[upd]
  rw[putSel,e,hv]
  refine (putSel_congr ms r _ xs (k+1) _ fun j hj=>?_).trans hx
  unfold upd
  rw[if_neg (by omega)]
 | false::ms,o::r,k,a=>by
  obtain ⟨xs,hx⟩:=putSel_own ms r (k+1) a
  exact ⟨xs,by rw[putSel]; exact hx⟩
def seqI (ops:Array Oper):List Nat→Array Bool→Bool
 | [],listed=>(Region.ready .any ops listed).isEmpty
 | k::r,listed=>decide (Region.ready .any ops listed = [k])&&seqI ops r (listed.setIfInBounds k true)
theorem wpAny_of_seqI {ops:Array Oper}:∀(js:List Nat) (l:List Oper) (listed:Array Bool) (a:Act) (w:World),js.map (fun j=>ops[j]?)=l.map some→seqI ops js listed=true→wpList P ops Q l a w→wpAny P .any ops Q js.length listed a w
 | [],[],_,_,_,_,hB,h=>⟨by simpa[seqI] using hB,h⟩
 | [],_::_,_,_,_,hl,_,_=>by simp at hl
 | _::_,[],_,_,_,hl,_,_=>by simp at hl
 | k::js,o::l,listed,a,w,hl,hB,h=>by
  simp only[List.map_cons,List.cons.injEq] at hl
  have h0:ops[k]?=some o:=hl.1
  simp only[seqI,Bool.and_eq_true,decide_eq_true_eq] at hB
  refine ⟨fun h1=>(by rw[hB.1] at h1; cases h1),fun i hi=>?_⟩
  rw[hB.1] at hi
  have hik:i=k:=by simpa using hi
  subst hik
  have hw:wpOp P ops Q i (wpList P ops Q l) a w:=by unfold wpOp; simp only[h0]; exact h
  exact wpOp_mono (fun a' w' h'=>wpAny_of_seqI js l _ a' w' hl.2 hB.2 h') hw
theorem rest_is : ∀(ms:List Bool) (l:List Oper) (k:Nat) (ops:Array Oper),(∀j,l[j]?=ops[k+j]?)→(restI ms l k).map (fun j=>ops[j]?)=(restL ms l).map some
 | [],l,k,ops,h=>by
  simp only[restI,restL,List.map_map]
  apply List.ext_getElem?
  intro i
  simp only[List.getElem?_map]
  rcases Nat.lt_or_ge i l.length with hi | hi
  ·rw[List.getElem?_range hi]
   simp[←h i,hi]
  ·simp[hi]
 | b::ms,[],k,ops,h=>by cases b<;>simp[restI,restL]
 | true::ms,o::r,k,ops,h=>by
  rw[restI,restL]
  exact rest_is ms r (k+1) ops fun j=>by have:=h (j+1); simpa[Nat.add_assoc,Nat.add_comm 1 j] using this
 | false::ms,o::r,k,ops,h=>by
  rw[restI,restL,List.map_cons,List.map_cons,rest_is ms r (k+1) ops fun j=>by have:=h (j+1); simpa[Nat.add_assoc,Nat.add_comm 1 j] using this]
  have:=h 0
  simp only[List.getElem?_cons_zero,Nat.add_zero] at this
  rw[←this]
def orM : List Bool→List Bool→List Bool
 | a::as,b::bs=>(a || b)::orM as bs
 | _,_=>[]
theorem selAt_orM : ∀{pre ms:List Bool},pre.length=ms.length→∀i,selAt (orM pre ms) i=(selAt pre i || selAt ms i)
 | [],[],_,i=>by simp[orM,selAt]
 | [],_::_,h,_=>by simp at h
 | _::_,[],h,_=>by simp at h
 | a::as,b::bs,h,0=>by simp[orM,selAt]
 | a::as,b::bs,h,i+1=>by
  have:=selAt_orM (pre:=as) (ms:=bs) (by simpa using h) i
  simpa[orM,selAt] using this
theorem orM_length : ∀{pre ms:List Bool},pre.length=ms.length→(orM pre ms).length=ms.length
 | [],[],_=>rfl
 | [],_::_,h=>by simp at h
 | _::_,[],h=>by simp at h
 | a::as,b::bs,h=>by simp[orM,orM_length (pre:=as) (ms:=bs) (by simpa using h)]
def depsIn (o:Oper) (pre ms:List Bool) (i:Nat):Bool:=o.after.all fun e=>!Region.binds .any e || selAt pre e.on || (decide (e.on<i)&&selAt ms e.on)
def depsPre (o:Oper) (pre:List Bool):Bool:=o.after.all fun e=>!Region.binds .any e || selAt pre e.on
def fitAt (l:List Oper) (pre ms:List Bool) (i:Nat):Bool:=
 match l[i]? with
 | some o=>if selAt pre i=true then !selAt ms i&&depsPre o pre else if selAt ms i=true then depsIn o pre ms i else (List.range l.length).all fun j=>!selAt ms j || (cover l l.length [i]).contains j
 | none=>true
def fitsA (l:List Oper) (pre ms:List Bool):Bool:=distinctS ms l&&decide (ms.length=l.length)&&decide (pre.length=l.length)&&(List.range l.length).all (fitAt l pre ms)
def fits (l:List Oper) (pre ms:List Bool):Bool:=fitsA l pre ms&&seqI l.toArray (restI (orM pre ms) l 0) (orM pre ms).toArray
def waitsS (l:List Oper) (ms:List Bool) (i j:Nat):Bool:=waits l i j&&selAt ms j
def Step (R:World→World→Prop) (P:Program) (l:List Oper) (ms:List Bool) (Q:Exit→Act→World→Prop) (w0:World) (a0:Act) (T:Nat→Value→World→Prop) (i:Nat):Prop:=
 ∀o,l[i]?=some o→∀(xs:Nat→Value) (w:World),R w0 w→(∀j,waitsS l ms i j=true→T j (xs j) w)→∀K:Act→World→Prop,
  (∀v w',R w w'→T i v w'→K ((putSel ms l xs 0 a0).put o.dst v) w') →
  if Region.wanted o (yielded l.toArray (putSel ms l xs 0 a0).tmps)=true then Oper.wp P o (putSel ms l xs 0 a0) w K Q else K ((putSel ms l xs 0 a0).put o.dst undef) w
theorem Step.of {R:World→World→Prop} {l:List Oper} {ms:List Bool} {w0:World} {a0:Act} {T:Nat→Value→World→Prop} {i:Nat} {o:Oper} (ho:l[i]?=some o)
  (h:∀(xs:Nat→Value) (w:World),R w0 w→(∀j,waitsS l ms i j=true→T j (xs j) w)→∀K:Act→World→Prop,
   (∀v w',R w w'→T i v w'→K ((putSel ms l xs 0 a0).put o.dst v) w') →
   if Region.wanted o (yielded l.toArray (putSel ms l xs 0 a0).tmps)=true then Oper.wp P o (putSel ms l xs 0 a0) w K Q else K ((putSel ms l xs 0 a0).put o.dst undef) w):Step R P l ms Q w0 a0 T i:=fun p hp=>by
 rw[ho,Option.some.injEq] at hp
 subst hp
 exact h

section
variable {l:List Oper} {ms:List Bool} {w0:World} {a0:Act} {T:Nat→Value→World→Prop} {R:World→World→Prop}
def undone (l:List Oper) (ms:List Bool) (listed:Array Bool):Nat:=((List.range l.length).filter fun j=>selAt ms j&&!listed.getD j true).length
structure Inv (R:World→World→Prop) (l:List Oper) (pre ms:List Bool) (w0:World) (a0:Act) (T:Nat→Value→World→Prop) (listed:Array Bool) (a:Act) (w:World):Prop where
 size:listed.size=l.length
 below:R w0 w
 vals:∃xs,a=putSel ms l xs 0 a0∧∀j,selAt ms j=true→j<l.length→listed.getD j false=true→T j (xs j) w
 later:∀j,selAt ms j=false→selAt pre j=false→j<l.length→listed.getD j true=false
 first:∀j,selAt pre j=true→j<l.length→listed.getD j false=true
 closed:∀i,(selAt ms i=true∨selAt pre i=true)→listed.getD i false=true→∀j,waits l i j=true→listed.getD j false=true
theorem undone_set {listed:Array Bool} {i:Nat} (hsel:selAt ms i=true) (hi:i<l.length) (hs:i<listed.size) (h0:listed.getD i true=false):undone l ms listed=undone l ms (listed.setIfInBounds i true)+1:=by
 unfold undone
 have hone:∀(p:Nat→Bool) (n:Nat),([n].filter p).length=if p n=true then 1 else 0:=fun p n=>by
  cases h:p n<;>simp[h]
 have key:∀n,((List.range n).filter fun j=>selAt ms j&&!listed.getD j true).length=((List.range n).filter fun j=>selAt ms j&&!(listed.setIfInBounds i true).getD j true).length+(if i<n then 1 else 0):=by
  intro n
  induction n with
  | zero=>simp
  | succ n ih=>
   rw[List.range_succ,List.filter_append,List.filter_append,List.length_append,List.length_append,ih,hone,hone]
   by_cases e:i=n
   ·subst e
    have e1:(listed.setIfInBounds i true).getD i true=true:=by simp[hs]
    have l1:¬i<i:=by omega
    have l2:i<i+1:=by omega
    rw[h0,e1,hsel,if_neg l1,if_pos l2]
    rfl
   ·have e1:(listed.setIfInBounds i true).getD n true=listed.getD n true:=getD_set_ne true e
    rw[e1]
    by_cases hlt:i<n
    ·have l2:i<n+1:=by omega
     rw[if_pos hlt,if_pos l2]; omega
    ·have l2:¬i<n+1:=by omega
     rw[if_neg hlt,if_neg l2]; omega
 rw[key l.length,if_pos hi]
theorem undone_zero {listed:Array Bool} (h:undone l ms listed=0) {j:Nat} (hs:selAt ms j=true) (hj:j<l.length):listed.getD j true=true:=by
 unfold undone at h
 rw[List.length_eq_zero_iff,List.filter_eq_nil_iff] at h
 have:=h j (List.mem_range.2 hj)
 simpa[hs] using this
theorem flow_any {pre:List Bool} (hRt:∀a b c,R a b→R b c→R a c) (hfit:fitsA l pre ms=true) (hst:∀i v w w',T i v w→R w w'→T i v w') (hstep:∀i,selAt ms i=true→i<l.length→Step R P l ms Q w0 a0 T i)
  (hend:∀xs w,R w0 w→(∀j,selAt ms j=true→j<l.length→T j (xs j) w)→wpAny P .any l.toArray Q (restI (orM pre ms) l 0).length (orM pre ms).toArray (putSel ms l xs 0 a0) w) :
  ∀(c:Nat) (listed:Array Bool) (a:Act) (w:World),undone l ms listed=c→Inv R l pre ms w0 a0 T listed a w→wpAny P .any l.toArray Q (c+(restI (orM pre ms) l 0).length) listed a w:=by
 simp only[fitsA,Bool.and_eq_true,decide_eq_true_eq,List.all_eq_true,List.mem_range] at hfit
 obtain ⟨⟨⟨hdis,hlen⟩,hlenp⟩,hall0⟩:=hfit
 have hpm:pre.length=ms.length:=by rw[hlen,hlenp]
 have hwl:∀i j,waits l i j=true→i<l.length:=fun i j h=>by
  unfold waits at h
  rcases Nat.lt_or_ge i l.length with h1 | h1
  ·exact h1
  ·rw[List.getElem?_eq_none h1] at h; cases h
 have hprel:∀j,selAt pre j=true→j<l.length:=fun j h=>by
  rcases Nat.lt_or_ge j pre.length with h1 | h1
  ·omega
  ·unfold selAt at h
   rw[List.getD_eq_getElem?_getD,List.getElem?_eq_none h1] at h
   cases h
 have hapart:∀i,i<l.length→selAt pre i=true→selAt ms i=false:=fun i hlt hi=>by
  have h1:=hall0 i hlt
  unfold fitAt at h1
  rw[List.getElem?_eq_getElem hlt] at h1
  simp only[hi,if_pos,Bool.and_eq_true,Bool.not_eq_true'] at h1
  exact h1.1
 have htopo:∀i,selAt ms i=true→∀j,waits l i j=true→selAt pre j=true∨(j<i∧selAt ms j=true):=fun i hi j hj=>by
  have hlt:=hwl i j hj
  have hnp:selAt pre i=false:=by
   cases h:selAt pre i with
   | false=>rfl
   | true=>rw[hapart i hlt h] at hi; cases hi
  have h1:=hall0 i hlt
  unfold fitAt at h1
  unfold waits at hj
  rw[List.getElem?_eq_getElem hlt] at h1 hj
  simp only[hnp,Bool.false_eq_true,if_false,hi,if_pos] at h1
  unfold Go.Flow.depOn at hj
  obtain ⟨e,he,hb⟩:=Array.any_eq_true'.1 hj
  simp only[Bool.and_eq_true,beq_iff_eq] at hb
  unfold depsIn at h1
  have h2:=Array.all_eq_true_iff_forall_mem.1 h1 e he
  simp only[hb.1,Bool.not_true,Bool.false_or,Bool.or_eq_true,Bool.and_eq_true,decide_eq_true_eq] at h2
  rw[←hb.2]
  exact h2
 have hlast:∀i,selAt ms i=false→selAt pre i=false→i<l.length→∀j,selAt ms j=true→j<l.length→j∈cover l l.length [i]:=fun i hi hp hlt j hj hjl=>by
  have h1:=hall0 i hlt
  unfold fitAt at h1
  rw[List.getElem?_eq_getElem hlt] at h1
  simp only[hi,hp,Bool.false_eq_true,if_false,List.all_eq_true,List.mem_range] at h1
  have h2:=h1 j hjl
  simp only[hj,Bool.not_true,Bool.false_or,List.contains_iff_mem] at h2
  exact h2
 intro c
 induction c with
 | zero=>
  intro listed a w hc hI
  obtain ⟨xs,rfl,hx⟩:=hI.vals
  have hall:∀j,selAt ms j=true→j<l.length→listed.getD j false=true:=fun j hs hj=>by
   rw[←Flow.getD_both (by rw[hI.size]; omega)]
   exact undone_zero hc hs hj
  have e:listed=(orM pre ms).toArray:=by
   have hsz:=hI.size
   have hol:=orM_length hpm
   ext i h1 h2
   ·simp[hsz,hol,hlen]
   ·have h3:(orM pre ms).toArray[i]=selAt (orM pre ms) i:=by
     have h4:i<(orM pre ms).length:=by simpa using h2
     simp[selAt,h4]
    rw[h3,selAt_orM hpm]
    cases hs:selAt ms i with
    | true=>
     have:=hall i hs (by omega)
     simp only[Array.getD_eq_getD_getElem?,Array.getElem?_eq_getElem h1,Option.getD_some] at this
     rw[this]; simp
    | false=>
     cases hp:selAt pre i with
     | true=>
      have:=hI.first i hp (by omega)
      simp only[Array.getD_eq_getD_getElem?,Array.getElem?_eq_getElem h1,Option.getD_some] at this
      rw[this]; simp
     | false=>
      have:=hI.later i hs hp (by omega)
      simp only[Array.getD_eq_getD_getElem?,Array.getElem?_eq_getElem h1,Option.getD_some] at this
      rw[this]; simp
  rw[e,Nat.zero_add]
  exact hend xs w hI.below fun j hs hj=>hx j hs hj (hall j hs hj)
 | succ c ih=>
  intro listed a w hc hI
  rw[show c+1+(restI (orM pre ms) l 0).length=c+(restI (orM pre ms) l 0).length+1 by omega]
  have hex:∃i,(selAt ms i=true∧i<l.length)∧listed.getD i true=false:=by
   apply Classical.byContradiction
   intro hno
   have:undone l ms listed=0:=by
    unfold undone
    rw[List.length_eq_zero_iff,List.filter_eq_nil_iff]
    intro j hj
    have hjm:=List.mem_range.1 hj
    cases hs:selAt ms j with
    | false=>simp
    | true=>
     cases h:listed.getD j true with
     | true=>simp
     | false=>exact absurd ⟨j,⟨hs,hjm⟩,h⟩ hno
   omega
  refine ⟨fun hr=>?_,fun i hi=>?_⟩
  ·obtain ⟨i,⟨hsi,him⟩,hi⟩:=hex
   obtain ⟨k,hk1,hk2,hk3⟩:=least (fun i=>selAt ms i=true∧listed.getD i true=false) i ⟨hsi,hi⟩
   have:k∈Region.ready .any l.toArray listed:=by
    refine ready_iff.2 ⟨hk2.2,by omega,fun j hj=>?_⟩
    rcases htopo k hk2.1 j hj with hp | ⟨hjl,hjs⟩
    ·exact hI.first j hp (hprel j hp)
    ·have:=hk3 j hjl
     rw[←Flow.getD_both (by rw[hI.size]; omega)]
     simpa[hjs] using this
   rw[hr] at this
   cases this
  ·obtain ⟨h0,hlt,hw⟩:=ready_iff.1 hi
   have hip:selAt pre i=false:=by
    cases h:selAt pre i with
    | false=>rfl
    | true=>
     have:=hI.first i h hlt
     rw[←Flow.getD_both (by rw[hI.size]; omega),h0] at this
     cases this
   have him:selAt ms i=true:=by
    cases hs:selAt ms i with
    | true=>rfl
    | false=>
     exfalso
     obtain ⟨k,⟨hks,hkm⟩,hk⟩:=hex
     have hcov:=hlast i hs hip hlt k hks hkm
     have:=cover_sub l (fun s=>listed.getD s false=true) (fun s hs j hj=>by
      cases h1:selAt ms s with
      | true=>exact hI.closed s (.inl h1) hs j hj
      | false=>
       cases hp:selAt pre s with
       | true=>exact hI.closed s (.inr hp) hs j hj
       | false=>
        have h2:=hI.later s h1 hp (hwl s j hj)
        rw[Flow.getD_both (by rw[hI.size]; exact hwl s j hj)] at h2
        rw[hs] at h2
        cases h2) l.length [i] (fun s hs j hj=>by
      rw[List.mem_singleton.1 hs] at hj
      exact hw j hj) k hcov
     rcases this with h1 | h1
     ·rw[List.mem_singleton] at h1
      rw[h1,hs] at hks
      cases hks
     ·rw[Flow.getD_both (by rw[hI.size]; omega),h1] at hk
      cases hk
   obtain ⟨xs,rfl,hx⟩:=hI.vals
   have hsz:i<listed.size:=by rw[hI.size]; exact hlt
   have hoi:l[i]?=some l[i]:=List.getElem?_eq_getElem hlt
   refine wpOp_step (o:=l[i]) (by simp[hlt]) fun K hK=>?_
   refine hstep i him hlt _ hoi xs w hI.below (fun j hj=>?_) K fun v w' hb ht=>hK _ _ (ih _ _ _ ?_ ?_)
   ·rw[waitsS,Bool.and_eq_true] at hj
    have hjl:=hw j hj.1
    rcases htopo i him j hj.1 with hp | ⟨hji,hjs⟩
    ·rw[hapart j (hprel j hp) hp] at hj
     cases hj.2
    ·exact hx j hjs (by omega) hjl
   ·have:=undone_set him hlt hsz h0
    omega
   ·refine ⟨by rw[Array.size_setIfInBounds]; exact hI.size,hRt _ _ _ hI.below hb,⟨upd xs i v,?_,fun j hjs hjm hj=>?_⟩,fun j h1 hp h2=>?_,fun j hp h2=>getD_set_true (hI.first j hp h2),fun k hks hk j hj=>?_⟩
    ·have:=putSel_upd ms l xs 0 i a0 v l[i] hdis him hoi
     rw[Nat.zero_add] at this
     exact this
    ·by_cases e:j=i
     ·subst e
      have:upd xs j v j=v:=by simp[upd]
      rw[this]
      exact ht
     ·have e1:upd xs i v j=xs j:=by unfold upd; rw[if_neg e]
      rw[e1]
      rw[getD_set_ne false (Ne.symm e)] at hj
      exact hst j _ _ _ (hx j hjs hjm hj) hb
    ·rw[getD_set_ne true (fun e=>by rw[←e,him] at h1; cases h1)]
     exact hI.later j h1 hp h2
    ·by_cases e:k=i
     ·subst e
      exact getD_set_true (hw j hj)
     ·rw[getD_set_ne false (Ne.symm e)] at hk
      exact getD_set_true (hI.closed k hks hk j hj)
def places : List Bool→Nat→List Nat
 | [],_=>[]
 | true::ms,k=>k::places ms (k+1)
 | false::ms,k=>places ms (k+1)
theorem mem_places : ∀(ms:List Bool) (k i:Nat),selAt ms i=true→k+i∈places ms k
 | [],_,_,h=>by simp[selAt] at h
 | true::ms,k,0,_=>by simp[places]
 | false::ms,k,0,h=>by simp[selAt] at h
 | true::ms,k,i+1,h=>by
  have:=mem_places ms (k+1) i (by simpa[selAt] using h)
  rw[places,show k+(i+1)=k+1+i by omega]
  exact List.mem_cons_of_mem _ this
 | false::ms,k,i+1,h=>by
  have:=mem_places ms (k+1) i (by simpa[selAt] using h)
  rw[places,show k+(i+1)=k+1+i by omega]
  exact this
theorem wpAny_selA (R:World→World→Prop) (hR0:∀a,R a a) (hRt:∀a b c,R a b→R b c→R a c) {ops:Array Oper} {a:Act} {w:World} {fuel:Nat} {listed:Array Bool} (is:List Nat) (pre ms:List Bool) (T:Nat→Value→World→Prop) (his:places ms 0=is) (hl:ops=l.toArray) (hlist:listed=pre.toArray) (hfuel:fuel=undone l ms pre.toArray+(restI (orM pre ms) l 0).length) (hfit:fitsA l pre ms=true)
  (hst:∀i v w w',T i v w→R w w'→T i v w') (hstep:Flow.Steps (Step R P l ms Q w a T) is)
  (hend:∀xs w',R w w'→(∀j,selAt ms j=true→T j (xs j) w')→wpAny P .any l.toArray Q (restI (orM pre ms) l 0).length (orM pre ms).toArray (putSel ms l xs 0 a) w'):wpAny P .any ops Q fuel listed a w:=by
 subst hl hlist hfuel
 have hfit':=hfit
 simp only[fitsA,Bool.and_eq_true,decide_eq_true_eq,List.all_eq_true,List.mem_range] at hfit'
 have hlen:=hfit'.1.1.2
 have hlenp:=hfit'.1.2
 have hall0:=hfit'.2
 have hpg:∀j,j<l.length→∀d,pre.toArray.getD j d=selAt pre j:=fun j hj d=>by
  have h4:j<pre.length:=by omega
  simp[selAt,h4]
 have hpf:∀j,pre.toArray.getD j false=selAt pre j:=fun j=>by
  rcases Nat.lt_or_ge j l.length with h | h
  ·exact hpg j h false
  ·have h4:pre.length≤j:=by omega
   simp[selAt,h4]
 refine flow_any hRt hfit hst (fun i hs _=>Flow.Steps.at hstep i (by rw[←his]; have:=mem_places ms 0 i hs; rwa[Nat.zero_add] at this)) (fun xs w' hb hT=>?_) _ _ a w rfl ?_
 ·refine hend xs w' hb fun j hs=>hT j hs ?_
  rw[←hlen]
  rcases Nat.lt_or_ge j ms.length with h | h
  ·exact h
  ·unfold selAt at hs
   rw[List.getD_eq_getElem?_getD,List.getElem?_eq_none h] at hs
   cases hs
 ·obtain ⟨xs,hx⟩:=putSel_own ms l 0 a
  refine ⟨by simp[hlenp],hR0 _,⟨xs,hx.symm,fun j hs hjl hj=>?_⟩,fun j _ hp h2=>by rw[hpg j h2,hp],fun j hp h2=>by rw[hpg j h2,hp],fun i hi hil j hj=>?_⟩
  ·rw[hpg j hjl] at hj
   have h1:=hall0 j hjl
   unfold fitAt at h1
   rw[List.getElem?_eq_getElem hjl] at h1
   simp only[hj,if_pos,Bool.and_eq_true,Bool.not_eq_true'] at h1
   rw[h1.1] at hs
   cases hs
  ·rw[hpf] at hil
   have hlt:i<l.length:=by
    rcases Nat.lt_or_ge i l.length with h | h
    ·exact h
    ·have h4:pre.length≤i:=by omega
     simp[selAt,h4] at hil
   have h1:=hall0 i hlt
   unfold fitAt at h1
   unfold waits at hj
   rw[List.getElem?_eq_getElem hlt] at h1 hj
   simp only[hil,if_pos,Bool.and_eq_true] at h1
   unfold Go.Flow.depOn at hj
   obtain ⟨e,he,hb⟩:=Array.any_eq_true'.1 hj
   simp only[Bool.and_eq_true,beq_iff_eq] at hb
   have h2:=Array.all_eq_true_iff_forall_mem.1 h1.2 e he
   simp only[hb.1,Bool.not_true,Bool.false_or] at h2
   rw[hpf,←hb.2]
   exact h2
theorem wpAny_sel (R:World→World→Prop) (hR0:∀a,R a a) (hRt:∀a b c,R a b→R b c→R a c) {ops:Array Oper} {a:Act} {w:World} {fuel:Nat} {listed:Array Bool} (is:List Nat) (pre ms:List Bool) (T:Nat→Value→World→Prop) (his:places ms 0=is) (hl:ops=l.toArray) (hlist:listed=pre.toArray) (hfuel:fuel=undone l ms pre.toArray+(restI (orM pre ms) l 0).length) (hfit:fits l pre ms=true)
  (hst:∀i v w w',T i v w→R w w'→T i v w') (hstep:Flow.Steps (Step R P l ms Q w a T) is)
  (hend:∀xs w',R w w'→(∀j,selAt ms j=true→T j (xs j) w')→wpList P l.toArray Q (restL (orM pre ms) l) (putSel ms l xs 0 a) w'):wpAny P .any ops Q fuel listed a w:=by
 rw[fits,Bool.and_eq_true] at hfit
 exact wpAny_selA R hR0 hRt is pre ms T his hl hlist hfuel hfit.1 hst hstep fun xs w' hb hT=>wpAny_of_seqI _ (restL (orM pre ms) l) _ _ _ (rest_is _ l 0 l.toArray fun j=>by simp) hfit.2 (hend xs w' hb hT)
theorem wp_region_sel (R:World→World→Prop) (hR0:∀a,R a a) (hRt:∀a b c,R a b→R b c→R a c) {id:Nat} {ops:Array Oper} {a:Act} {w:World} (is:List Nat) (pre ms:List Bool) (T:Nat→Value→World→Prop) (his:places ms 0=is) (hl:ops=l.toArray) (hpre:Array.replicate l.length false=pre.toArray) (hfuel:l.length=undone l ms pre.toArray+(restI (orM pre ms) l 0).length) (hmix:P.follows .mixedOrders=true) (hfit:fits l pre ms=true)
  (hst:∀i v w w',T i v w→R w w'→T i v w') (hstep:Flow.Steps (Step R P l ms Q w.drew a T) is)
  (hend:∀xs w',R w.drew w'→(∀j,selAt ms j=true→T j (xs j) w')→wpList P l.toArray Q (restL (orM pre ms) l) (putSel ms l xs 0 a) w'):(Code.region id ops true).wp P Q a w:=by
 subst hl
 refine wp_region_any hmix ?_
 change wpAny P .any l.toArray Q l.toArray.size _ a w.drew
 exact wpAny_sel R hR0 hRt is pre ms T his rfl (by rw[←hpre]; simp) (by rw[←hfuel]; simp) hfit hst hstep hend
end
end Go.FlowR

