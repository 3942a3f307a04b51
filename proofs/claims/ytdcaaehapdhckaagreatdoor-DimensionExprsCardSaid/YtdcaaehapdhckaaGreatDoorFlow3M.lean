/- A statement that draws the order of its operations, some of which write into memory of their own that no cell tells (maps that are being made): an invariant X speaks of that memory. Of no program. -/
import Derived.Test.YtdcaaehapdhckaaGreatDoorFlow2M
set_option linter.unusedSimpArgs false
set_option linter.unusedVariables false
set_option maxRecDepth 100000
namespace Go.FlowX
open Go Go.RowKit Go.FlowR
open Go.Flow (upd waits cover cover_sub other put_comm put_twice put_own ready_iff least)

variable {P:Program} {Q:Exit→Act→World→Prop}
def setL (L:Nat→Bool) (i:Nat):Nat→Bool:=fun j=>decide (j=i) || L j
def StepS (R:World→World→Prop) (P:Program) (l:List Oper) (ms:List Bool) (Q:Exit→Act→World→Prop) (w0:World) (a0:Act) (T:Nat→Value→World→Prop) (X:(Nat→Bool)→(Nat→Value)→World→Prop) (i:Nat):Prop:=
 ∀o,l[i]?=some o→∀(L:Nat→Bool) (xs:Nat→Value) (w:World),R w0 w→(∀j,waitsS l ms i j=true→L j=true∧T j (xs j) w)→X L xs w→∀K:Act→World→Prop,
  (∀v w',Below w.heap.size w w'→T i v w'→K ((putSel ms l xs 0 a0).put o.dst v) w') →
  if Region.wanted o (yielded l.toArray (putSel ms l xs 0 a0).tmps)=true then Oper.wp P o (putSel ms l xs 0 a0) w K Q else K ((putSel ms l xs 0 a0).put o.dst undef) w
def StepX (R:World→World→Prop) (P:Program) (l:List Oper) (ms:List Bool) (Q:Exit→Act→World→Prop) (w0:World) (a0:Act) (T:Nat→Value→World→Prop) (X:(Nat→Bool)→(Nat→Value)→World→Prop) (S:World→World→Prop) (i:Nat):Prop:=
 ∀o,l[i]?=some o→∀(L:Nat→Bool) (xs:Nat→Value) (w:World),R w0 w→(∀j,waitsS l ms i j=true→L j=true∧T j (xs j) w)→X L xs w→L i=false→∀K:Act→World→Prop,
  (∀v w',R w0 w'→S w w'→T i v w'→X (setL L i) (upd xs i v) w'→K ((putSel ms l xs 0 a0).put o.dst v) w') →
  if Region.wanted o (yielded l.toArray (putSel ms l xs 0 a0).tmps)=true then Oper.wp P o (putSel ms l xs 0 a0) w K Q else K ((putSel ms l xs 0 a0).put o.dst undef) w
theorem StepS.of {R:World→World→Prop} {l:List Oper} {ms:List Bool} {w0:World} {a0:Act} {T:Nat→Value→World→Prop} {X:(Nat→Bool)→(Nat→Value)→World→Prop} {i:Nat} {o:Oper} (ho:l[i]?=some o)
  (h:∀(L:Nat→Bool) (xs:Nat→Value) (w:World),R w0 w→(∀j,waitsS l ms i j=true→L j=true∧T j (xs j) w)→X L xs w→∀K:Act→World→Prop,
   (∀v w',Below w.heap.size w w'→T i v w'→K ((putSel ms l xs 0 a0).put o.dst v) w') →
   if Region.wanted o (yielded l.toArray (putSel ms l xs 0 a0).tmps)=true then Oper.wp P o (putSel ms l xs 0 a0) w K Q else K ((putSel ms l xs 0 a0).put o.dst undef) w):StepS R P l ms Q w0 a0 T X i:=fun p hp=>by
 rw[ho,Option.some.injEq] at hp
 subst hp
 exact h
theorem StepX.of {R:World→World→Prop} {l:List Oper} {ms:List Bool} {w0:World} {a0:Act} {T:Nat→Value→World→Prop} {X:(Nat→Bool)→(Nat→Value)→World→Prop} {S:World→World→Prop} {i:Nat} {o:Oper} (ho:l[i]?=some o)
  (h:∀(L:Nat→Bool) (xs:Nat→Value) (w:World),R w0 w→(∀j,waitsS l ms i j=true→L j=true∧T j (xs j) w)→X L xs w→L i=false→∀K:Act→World→Prop,
   (∀v w',R w0 w'→S w w'→T i v w'→X (setL L i) (upd xs i v) w'→K ((putSel ms l xs 0 a0).put o.dst v) w') →
   if Region.wanted o (yielded l.toArray (putSel ms l xs 0 a0).tmps)=true then Oper.wp P o (putSel ms l xs 0 a0) w K Q else K ((putSel ms l xs 0 a0).put o.dst undef) w):StepX R P l ms Q w0 a0 T X S i:=fun p hp=>by
 rw[ho,Option.some.injEq] at hp
 subst hp
 exact h
def StepM (R:World→World→Prop) (P:Program) (l:List Oper) (ms:List Bool) (Q:Exit→Act→World→Prop) (w0:World) (a0:Act) (T:Nat→Value→World→Prop) (X:(Nat→Bool)→(Nat→Value)→World→Prop) (S:World→World→Prop) (xops:Nat→Bool) (i:Nat):Prop:=
 (xops i=false∧StepS R P l ms Q w0 a0 T X i)∨(xops i=true∧StepX R P l ms Q w0 a0 T X S i)

section
variable {R:World→World→Prop} {l:List Oper} {ms:List Bool} {w0:World} {a0:Act} {T:Nat→Value→World→Prop} {X:(Nat→Bool)→(Nat→Value)→World→Prop} {S:World→World→Prop} {xops:Nat→Bool}
def Lof (ms:List Bool) (listed:Array Bool):Nat→Bool:=fun j=>listed.getD j false&&selAt ms j
structure Inv (R:World→World→Prop) (l:List Oper) (ms:List Bool) (w0:World) (a0:Act) (T:Nat→Value→World→Prop) (X:(Nat→Bool)→(Nat→Value)→World→Prop) (listed:Array Bool) (a:Act) (w:World):Prop where
 size:listed.size=l.length
 below:R w0 w
 vals:∃xs,a=putSel ms l xs 0 a0∧(∀j,selAt ms j=true→j<l.length→listed.getD j false=true→T j (xs j) w)∧X (Lof ms listed) xs w
 later:∀j,selAt ms j=false→j<l.length→listed.getD j true=false
 closed:∀i,selAt ms i=true→listed.getD i false=true→∀j,waits l i j=true→listed.getD j false=true
theorem flow_any (hRB:∀u v z,R u v→Below v.heap.size v z→R u z) (hfit:fitsA l (List.replicate l.length false) ms=true) (hst:∀i v w w',T i v w→S w w'→T i v w') (hSB:∀w w',Below w.heap.size w w'→S w w') (hX:∀L xs w L' xs' w',X L xs w→(∀j,xops j=true→L' j=L j∧xs' j=xs j)→Below w.heap.size w w'→X L' xs' w') (hstep:∀i,selAt ms i=true→i<l.length→StepM R P l ms Q w0 a0 T X S xops i)
  (hend:∀xs w,R w0 w→(∀j,selAt ms j=true→j<l.length→T j (xs j) w)→X (fun j=>selAt ms j) xs w→wpAny P .any l.toArray Q (restI ms l 0).length ms.toArray (putSel ms l xs 0 a0) w) :
  ∀(c:Nat) (listed:Array Bool) (a:Act) (w:World),undone l ms listed=c→Inv R l ms w0 a0 T X listed a w→wpAny P .any l.toArray Q (c+(restI ms l 0).length) listed a w:=by
 simp only[fitsA,Bool.and_eq_true,decide_eq_true_eq,List.all_eq_true,List.mem_range] at hfit
 obtain ⟨⟨⟨hdis,hlen⟩,-⟩,hall0⟩:=hfit
 have hpre:∀j,selAt (List.replicate l.length false) j=false:=fun j=>by
  unfold selAt
  rw[List.getD_eq_getElem?_getD]
  rcases Nat.lt_or_ge j l.length with h | h
  ·rw[List.getElem?_replicate,if_pos h]; rfl
  ·rw[List.getElem?_replicate,if_neg (by omega)]; rfl
 have hwl:∀i j,waits l i j=true→i<l.length:=fun i j h=>by
  unfold waits at h
  rcases Nat.lt_or_ge i l.length with h1 | h1
  ·exact h1
  ·rw[List.getElem?_eq_none h1] at h; cases h
 have hsl:∀j,selAt ms j=true→j<l.length:=fun j h=>by
  rcases Nat.lt_or_ge j ms.length with h1 | h1
  ·omega
  ·unfold selAt at h
   rw[List.getD_eq_getElem?_getD,List.getElem?_eq_none h1] at h
   cases h
 have htopo:∀i,selAt ms i=true→∀j,waits l i j=true→j<i∧selAt ms j=true:=fun i hi j hj=>by
  have hlt:=hwl i j hj
  have h1:=hall0 i hlt
  unfold fitAt at h1
  unfold waits at hj
  rw[List.getElem?_eq_getElem hlt] at h1 hj
  simp only[hpre,Bool.false_eq_true,if_false,hi,if_pos] at h1
  unfold Go.Flow.depOn at hj
  obtain ⟨e,he,hb⟩:=Array.any_eq_true'.1 hj
  simp only[Bool.and_eq_true,beq_iff_eq] at hb
  unfold depsIn at h1
  have h2:=Array.all_eq_true_iff_forall_mem.1 h1 e he
  simp only[hb.1,hpre,Bool.not_true,Bool.false_or,Bool.and_eq_true,decide_eq_true_eq] at h2
  rw[←hb.2]
  exact h2
 have hlast:∀i,selAt ms i=false→i<l.length→∀j,selAt ms j=true→j<l.length→j∈cover l l.length [i]:=fun i hi hlt j hj hjl=>by
  have h1:=hall0 i hlt
  unfold fitAt at h1
  rw[List.getElem?_eq_getElem hlt] at h1
  simp only[hi,hpre,Bool.false_eq_true,if_false,List.all_eq_true,List.mem_range] at h1
  have h2:=h1 j hjl
  simp only[hj,Bool.not_true,Bool.false_or,List.contains_iff_mem] at h2
  exact h2
 intro c
 induction c with
 | zero=>
  intro listed a w hc hI
  obtain ⟨xs,rfl,hx,hX0⟩:=hI.vals
  have hall:∀j,selAt ms j=true→j<l.length→listed.getD j false=true:=fun j hs hj=>by
   rw[←Flow.getD_both (by rw[hI.size]; omega)]
   exact undone_zero hc hs hj
  have e:listed=ms.toArray:=by
   have hsz:=hI.size
   ext i h1 h2
   ·simp[hsz,hlen]
   ·have h3:ms.toArray[i]=selAt ms i:=by
     have h4:i<ms.length:=by simpa using h2
     simp[selAt,h4]
    rw[h3]
    cases hs:selAt ms i with
    | true=>
     have:=hall i hs (by omega)
     simp only[Array.getD_eq_getD_getElem?,Array.getElem?_eq_getElem h1,Option.getD_some] at this
     exact this
    | false=>
     have:=hI.later i hs (by omega)
     simp only[Array.getD_eq_getD_getElem?,Array.getElem?_eq_getElem h1,Option.getD_some] at this
     exact this
  have eL:Lof ms listed=fun j=>selAt ms j:=by
   funext j
   unfold Lof
   cases hs:selAt ms j with
   | false=>simp
   | true=>rw[hall j hs (hsl j hs)]; rfl
  rw[eL] at hX0
  rw[e,Nat.zero_add]
  exact hend xs w hI.below (fun j hs hj=>hx j hs hj (hall j hs hj)) hX0
 | succ c ih=>
  intro listed a w hc hI
  rw[show c+1+(restI ms l 0).length=c+(restI ms l 0).length+1 by omega]
  have hex:∃i,(selAt ms i=true∧i<l.length)∧listed.getD i true=false:=by
   apply Classical.byContradiction
   intro hno
   have:undone l ms listed=0:=by
    unfold undone
    rw[List.length_eq_zero_iff,List.filter_eq_nil_iff]
    intro j hj
    have hjm:=List.mem_range.1 hj
    cases hs:selAt ms j with
    | false=>simp
    | true=>
     cases h:listed.getD j true with
     | true=>simp
     | false=>exact absurd ⟨j,⟨hs,hjm⟩,h⟩ hno
   omega
  refine ⟨fun hr=>?_,fun i hi=>?_⟩
  ·obtain ⟨i,⟨hsi,him⟩,hi⟩:=hex
   obtain ⟨k,hk1,hk2,hk3⟩:=least (fun i=>selAt ms i=true∧listed.getD i true=false) i ⟨hsi,hi⟩
   have:k∈Region.ready .any l.toArray listed:=by
    refine ready_iff.2 ⟨hk2.2,by omega,fun j hj=>?_⟩
    obtain ⟨hjl,hjs⟩:=htopo k hk2.1 j hj
    have:=hk3 j hjl
    rw[←Flow.getD_both (by rw[hI.size]; omega)]
    simpa[hjs] using this
   rw[hr] at this
   cases this
  ·obtain ⟨h0,hlt,hw⟩:=ready_iff.1 hi
   have him:selAt ms i=true:=by
    cases hs:selAt ms i with
    | true=>rfl
    | false=>
     exfalso
     obtain ⟨k,⟨hks,hkm⟩,hk⟩:=hex
     have hcov:=hlast i hs hlt k hks hkm
     have:=cover_sub l (fun s=>listed.getD s false=true) (fun s hs j hj=>by
      cases h1:selAt ms s with
      | true=>exact hI.closed s h1 hs j hj
      | false=>
       have h2:=hI.later s h1 (hwl s j hj)
       rw[Flow.getD_both (by rw[hI.size]; exact hwl s j hj)] at h2
       rw[hs] at h2
       cases h2) l.length [i] (fun s hs j hj=>by
      rw[List.mem_singleton.1 hs] at hj
      exact hw j hj) k hcov
     rcases this with h1 | h1
     ·rw[List.mem_singleton] at h1
      rw[h1,hs] at hks
      cases hks
     ·rw[Flow.getD_both (by rw[hI.size]; omega),h1] at hk
      cases hk
   obtain ⟨xs,rfl,hx,hX0⟩:=hI.vals
   have hsz:i<listed.size:=by rw[hI.size]; exact hlt
   have hoi:l[i]?=some l[i]:=List.getElem?_eq_getElem hlt
   have hL:∀j,waitsS l ms i j=true→Lof ms listed j=true∧T j (xs j) w:=fun j hj=>by
    rw[waitsS,Bool.and_eq_true] at hj
    have hjl:=hw j hj.1
    obtain ⟨hji,hjs⟩:=htopo i him j hj.1
    exact ⟨by unfold Lof; rw[hjl,hjs]; rfl,hx j hjs (by omega) hjl⟩
   have hLi:Lof ms listed i=false:=by
    unfold Lof
    rw[←Flow.getD_both hsz,h0]
    rfl
   have hLset:Lof ms (listed.setIfInBounds i true)=setL (Lof ms listed) i:=by
    funext j
    unfold Lof setL
    by_cases e:j=i
    ·subst e
     have:(listed.setIfInBounds j true).getD j false=true:=by simp[hsz]
     rw[this,him]
     simp
    ·rw[getD_set_ne false (Ne.symm e)]
     simp[e]
   have hnext:∀(v:Value) (w':World),R w0 w'→(∀j u,T j u w→T j u w')→T i v w'→X (setL (Lof ms listed) i) (upd xs i v) w'→wpAny P .any l.toArray Q (c+(restI ms l 0).length) (listed.setIfInBounds i true) ((putSel ms l xs 0 a0).put l[i].dst v) w':=fun v w' hb hTT ht hXX=>by
    refine ih _ _ _ ?_ ?_
    ·have:=undone_set him hlt hsz h0
     omega
    ·refine ⟨by rw[Array.size_setIfInBounds]; exact hI.size,hb,⟨upd xs i v,?_,fun j hjs hjm hj=>?_,by rw[hLset]; exact hXX⟩,fun j h1 h2=>?_,fun k hks hk j hj=>?_⟩
     ·have:=putSel_upd ms l xs 0 i a0 v l[i] hdis him hoi
      rw[Nat.zero_add] at this
      exact this
     ·by_cases e:j=i
      ·subst e
       have:upd xs j v j=v:=by simp[upd]
       rw[this]
       exact ht
      ·have e1:upd xs i v j=xs j:=by unfold upd; rw[if_neg e]
       rw[e1]
       rw[getD_set_ne false (Ne.symm e)] at hj
       exact hTT j _ (hx j hjs hjm hj)
     ·rw[getD_set_ne true (fun e=>by rw[←e,him] at h1; cases h1)]
      exact hI.later j h1 h2
     ·by_cases e:k=i
      ·subst e
       exact getD_set_true (hw j hj)
      ·rw[getD_set_ne false (Ne.symm e)] at hk
       exact getD_set_true (hI.closed k hks hk j hj)
   refine wpOp_step (o:=l[i]) (by simp[hlt]) fun K hK=>?_
   rcases hstep i him hlt with ⟨hxo,hs⟩ | ⟨hxo,hs⟩
   ·refine hs _ hoi (Lof ms listed) xs w hI.below hL hX0 K fun v w' hb ht=>hK _ _ (hnext v w' (hRB _ _ _ hI.below hb) (fun j u h=>hst j u _ _ h (hSB _ _ hb)) ht ?_)
    refine hX _ _ _ _ _ _ hX0 (fun j hj=>?_) hb
    have hne:j≠i:=by
     rintro rfl
     rw[hxo] at hj
     cases hj
    exact ⟨by unfold setL; simp[hne],by unfold upd; rw[if_neg hne]⟩
   ·exact hs _ hoi (Lof ms listed) xs w hI.below hL hX0 hLi K fun v w' hb hS ht hXX=>hK _ _ (hnext v w' hb (fun j u h=>hst j u _ _ h hS) ht hXX)
theorem wp_region_mixR (R:World→World→Prop) (hR0:∀w,R w w) (hRB:∀u v z,R u v→Below v.heap.size v z→R u z) (S:World→World→Prop) (hSB:∀w w',Below w.heap.size w w'→S w w') {id:Nat} {ops:Array Oper} {a:Act} {w:World} (is:List Nat) (ms:List Bool) (xops:Nat→Bool) (T:Nat→Value→World→Prop) (X:(Nat→Bool)→(Nat→Value)→World→Prop) (his:places ms 0=is) (hl:ops=l.toArray) (hmix:P.follows .mixedOrders=true)
  (hfit:fitsA l (List.replicate l.length false) ms=true) (hfuel:l.length=undone l ms (List.replicate l.length false).toArray+(restI ms l 0).length) (hseq:seqI l.toArray (restI ms l 0) ms.toArray=true)
  (hst:∀i v w w',T i v w→S w w'→T i v w') (hX:∀L xs w L' xs' w',X L xs w→(∀j,xops j=true→L' j=L j∧xs' j=xs j)→Below w.heap.size w w'→X L' xs' w') (hX0:∀xs,X (fun _=>false) xs w.drew)
  (hstep:Flow.Steps (StepM R P l ms Q w.drew a T X S xops) is)
  (hend:∀xs w',R w.drew w'→(∀j,selAt ms j=true→T j (xs j) w')→X (fun j=>selAt ms j) xs w'→wpList P l.toArray Q (restL ms l) (putSel ms l xs 0 a) w'):(Code.region id ops true).wp P Q a w:=by
 subst hl
 refine wp_region_any hmix ?_
 change wpAny P .any l.toArray Q l.toArray.size _ a w.drew
 have hfit':=hfit
 simp only[fitsA,Bool.and_eq_true,decide_eq_true_eq] at hfit'
 have hlen:=hfit'.1.1.2
 have hrep:(Array.replicate l.toArray.size false)=(List.replicate l.length false).toArray:=by simp
 have hg:∀j d,j<l.length→(List.replicate l.length false).toArray.getD j d=false:=fun j d hj=>by simp[hj]
 have hgf:∀j,(List.replicate l.length false).toArray.getD j false=false:=fun j=>by
  rcases Nat.lt_or_ge j l.length with h | h
  ·exact hg j false h
  ·simp[h]
 rw[hrep,show l.toArray.size=undone l ms (List.replicate l.length false).toArray+(restI ms l 0).length by rw[←hfuel]; simp]
 refine flow_any hRB hfit hst hSB hX (fun i hs _=>Flow.Steps.at hstep i (by rw[←his]; have:=mem_places ms 0 i hs; rwa[Nat.zero_add] at this)) (fun xs w' hb hT hXX=>?_) _ _ a w.drew rfl ?_
 ·refine wpAny_of_seqI _ (restL ms l) _ _ _ (rest_is _ l 0 l.toArray fun j=>by simp) hseq (hend xs w' hb (fun j hs=>hT j hs ?_) hXX)
  rw[←hlen]
  rcases Nat.lt_or_ge j ms.length with h | h
  ·exact h
  ·unfold selAt at hs
   rw[List.getD_eq_getElem?_getD,List.getElem?_eq_none h] at hs
   cases hs
 ·obtain ⟨xs,hx⟩:=putSel_own ms l 0 a
  refine ⟨by simp,hR0 _,⟨xs,hx.symm,fun j _ _ hj=>?_,?_⟩,fun j _ h2=>hg j true h2,fun i _ hi=>?_⟩
  ·rw[hgf] at hj; cases hj
  ·have e:Lof ms (List.replicate l.length false).toArray=fun _=>false:=by
    funext j
    unfold Lof
    rw[hgf]
    rfl
   rw[e]
   exact hX0 xs
  ·rw[hgf] at hi; cases hi
theorem wp_region_mix (S:World→World→Prop) (hSB:∀w w',Below w.heap.size w w'→S w w') {id:Nat} {ops:Array Oper} {a:Act} {w:World} (is:List Nat) (ms:List Bool) (xops:Nat→Bool) (T:Nat→Value→World→Prop) (X:(Nat→Bool)→(Nat→Value)→World→Prop) (his:places ms 0=is) (hl:ops=l.toArray) (hmix:P.follows .mixedOrders=true)
  (hfit:fitsA l (List.replicate l.length false) ms=true) (hfuel:l.length=undone l ms (List.replicate l.length false).toArray+(restI ms l 0).length) (hseq:seqI l.toArray (restI ms l 0) ms.toArray=true)
  (hst:∀i v w w',T i v w→S w w'→T i v w') (hX:∀L xs w L' xs' w',X L xs w→(∀j,xops j=true→L' j=L j∧xs' j=xs j)→Below w.heap.size w w'→X L' xs' w') (hX0:∀xs,X (fun _=>false) xs w.drew)
  (hstep:Flow.Steps (StepM (fun a b=>Below a.heap.size a b) P l ms Q w.drew a T X S xops) is)
  (hend:∀xs w',Below w.drew.heap.size w.drew w'→(∀j,selAt ms j=true→T j (xs j) w')→X (fun j=>selAt ms j) xs w'→wpList P l.toArray Q (restL ms l) (putSel ms l xs 0 a) w'):(Code.region id ops true).wp P Q a w:=
 wp_region_mixR (fun a b=>Below a.heap.size a b) (fun a=>Below.refl _ a) (fun _ _ _ h k=>h.trans (k.mono h.size)) S hSB is ms xops T X his hl hmix hfit hfuel hseq hst hX hX0 hstep hend
end
end Go.FlowX

