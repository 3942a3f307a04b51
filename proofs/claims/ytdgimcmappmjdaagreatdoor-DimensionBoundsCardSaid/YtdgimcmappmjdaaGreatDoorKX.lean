/- Grown expressions, of no program: forms over so many dimensions, values, normal forms. -/
import Derived.Test.YtdgimcmappmjdaaGreatDoorProg
set_option linter.unusedSimpArgs false
set_option linter.unusedVariables false
set_option maxRecDepth 100000
namespace Go.Gx

structure LF where
 c:Rat
 t:List Rat
deriving DecidableEq
def LF.zero (n:Nat):LF:=⟨0,List.replicate n 0⟩
def LF.add (f g:LF):LF:=⟨f.c+g.c,List.zipWith (· + ·) f.t g.t⟩
def LF.scale (f:LF) (k:Rat):LF:=⟨f.c*k,f.t.map (· * k)⟩
def dot : List Rat→List Rat→Rat
 | a::l,b::m=>a*b+dot l m
 | _,_=>0
def LF.val (f:LF) (x:List Rat):Rat:=f.c+dot f.t x
inductive GEx where
 | form (f:LF)
 | scale (k:Rat) (a:GEx)
 | add (l:List GEx)
 | min (l:List GEx)
 | max (l:List GEx)
 | abs (a:GEx)
theorem dot_zero : ∀(n:Nat) (x:List Rat),dot (List.replicate n 0) x=0
 | 0,x=>by simp[dot]
 | n+1,[]=>by simp[List.replicate_succ,dot]
 | n+1,b::x=>by rw[List.replicate_succ,dot,dot_zero n x]; grind
theorem dot_add : ∀(a b x:List Rat),a.length=b.length→dot (List.zipWith (· + ·) a b) x=dot a x+dot b x
 | [],[],x,_=>by simp[dot,Rat.add_zero]
 | [],_::_,_,h=>by simp at h
 | _::_,[],_,h=>by simp at h
 | a::l,b::m,[],_=>by simp[dot,Rat.add_zero]
 | a::l,b::m,y::x,h=>by
  rw[List.zipWith_cons_cons,dot,dot,dot,dot_add l m x (by simpa using h)]
  grind
theorem dot_scale (k:Rat):∀(a x:List Rat),dot (a.map (· * k)) x=dot a x*k
 | [],x=>by simp[dot,Rat.zero_mul]
 | a::l,[]=>by simp[dot,Rat.zero_mul]
 | a::l,y::x=>by
  rw[List.map_cons,dot,dot,dot_scale k l x]
  grind
theorem val_zero (n:Nat) (x:List Rat):(LF.zero n).val x=0:=by
 unfold LF.zero LF.val
 rw[dot_zero]
 grind
theorem val_add {f g:LF} (h:f.t.length=g.t.length) (x:List Rat):(f.add g).val x=f.val x+g.val x:=by
 unfold LF.add LF.val
 rw[dot_add _ _ _ h]
 grind
theorem val_scale (f:LF) (k:Rat) (x:List Rat):(f.scale k).val x=f.val x*k:=by
 unfold LF.scale LF.val
 rw[dot_scale]
 grind
theorem add_len {f g:LF} {n:Nat} (h:f.t.length=n) (k:g.t.length=n):(f.add g).t.length=n:=by unfold LF.add; simp[h,k]
theorem scale_len {f:LF} {n:Nat} {k:Rat} (h:f.t.length=n):(f.scale k).t.length=n:=by unfold LF.scale; simp[h]
theorem zero_len (n:Nat):(LF.zero n).t.length=n:=by unfold LF.zero; simp
theorem zero_add {f:LF} {n:Nat} (h:f.t.length=n):(LF.zero n).add f=f:=by
 obtain ⟨c,t⟩:=f
 have ht:∀(n:Nat) (t:List Rat),t.length=n→List.zipWith (· + ·) (List.replicate n 0) t=t:=by
  intro n
  induction n with
  | zero=>intro t h; rw[List.eq_nil_of_length_eq_zero h]; rfl
  | succ n ih=>
   intro t h
   cases t with
   | nil=>simp at h
   | cons a t=>
    rw[List.replicate_succ,List.zipWith_cons_cons,ih t (by simpa using h),Rat.zero_add]
 unfold LF.add LF.zero
 rw[ht n t h,Rat.zero_add]
def leastOf : List Rat→Rat
 | []=>0
 | [a]=>a
 | a::l=>if leastOf l<a then leastOf l else a
def mostOf : List Rat→Rat
 | []=>0
 | [a]=>a
 | a::l=>if a<mostOf l then mostOf l else a
def sumOf : List Rat→Rat
 | []=>0
 | a::l=>a+sumOf l
mutual
def eval (x:List Rat):GEx→Rat
 | .form f=>f.val x
 | .scale k a=>k*eval x a
 | .add l=>sumOf (evals x l)
 | .min l=>leastOf (evals x l)
 | .max l=>mostOf (evals x l)
 | .abs a=>if eval x a<0 then -eval x a else eval x a
def evals (x:List Rat):List GEx→List Rat
 | []=>[]
 | a::l=>eval x a::evals x l
end
def addOpt (n:Nat):List (Option LF)→Option LF→Option LF
 | [],o=>o
 | none::_,_=>none
 | some f::l,some o=>addOpt n l (some (o.add f))
 | some _::_,none=>none
mutual
def linOf (n:Nat):GEx→Option LF
 | .form f=>some f
 | .abs _=>none
 | .scale k a=>if k=0 then some (LF.zero n) else (linOf n a).map (·.scale k)
 | .add l=>addOpt n (linsOf n l) (some (LF.zero n))
 | .min l=>if l.length>1 then none else addOpt n (linsOf n l) (some (LF.zero n))
 | .max l=>if l.length>1 then none else addOpt n (linsOf n l) (some (LF.zero n))
def linsOf (n:Nat):List GEx→List (Option LF)
 | []=>[]
 | a::l=>linOf n a::linsOf n l
end
mutual
def Over (n:Nat):GEx→Prop
 | .form f=>f.t.length=n
 | .scale _ a=>Over n a
 | .add l=>l≠[]∧Overs n l
 | .min l=>l≠[]∧Overs n l
 | .max l=>l≠[]∧Overs n l
 | .abs a=>Over n a
def Overs (n:Nat):List GEx→Prop
 | []=>True
 | a::l=>Over n a∧Overs n l
end
theorem addOpt_val {n:Nat} (x:List Rat):∀{l:List (Option LF)} {vs:List Rat} {o f:LF},(l.length=vs.length)→(∀j,j<l.length→∀g,l.getD j none=some g→g.t.length=n∧g.val x=vs.getD j 0)→o.t.length=n→addOpt n l (some o)=some f→f.t.length=n∧f.val x=o.val x+sumOf vs
 | [],vs,o,f,hl,_,ho,h=>by
  have hv:vs = []:=List.eq_nil_of_length_eq_zero hl.symm
  have e:o=f:=by simpa[addOpt] using h
  subst e hv
  exact ⟨ho,by rw[sumOf,Rat.add_zero]⟩
 | none::l,vs,o,f,_,_,_,h=>by simp[addOpt] at h
 | some g::l,[],o,f,hl,_,_,_=>by simp at hl
 | some g::l,v::vs,o,f,hl,hg,ho,h=>by
  rw[addOpt] at h
  have h0:=hg 0 (by simp) g rfl
  have ih:=addOpt_val x (l:=l) (vs:=vs) (o:=o.add g) (by simpa using hl) (fun j hj g' hg'=>hg (j+1) (by simpa using hj) g' (by simpa using hg')) (add_len ho h0.1) h
  refine ⟨ih.1,?_⟩
  rw[ih.2,val_add (by rw[ho,h0.1]),h0.2,sumOf]
  simp only[List.getD_cons_zero]
  grind
mutual
theorem linOf_val {n:Nat} (x:List Rat):∀{e:GEx} {f:LF},Over n e→linOf n e=some f→f.t.length=n∧f.val x=eval x e
 | .form g,f,ho,h=>by
  have e:g=f:=by simpa[linOf] using h
  subst e
  exact ⟨ho,by rw[eval]⟩
 | .abs a,f,_,h=>by simp[linOf] at h
 | .scale k a,f,ho,h=>by
  rw[linOf] at h
  by_cases hk:k=0
  ·rw[if_pos hk] at h
   have e:LF.zero n=f:=by simpa using h
   subst e
   exact ⟨zero_len n,by rw[val_zero,eval,hk,Rat.zero_mul]⟩
  ·rw[if_neg hk] at h
   obtain ⟨g,hg,rfl⟩:=Option.map_eq_some_iff.1 h
   have ih:=linOf_val x (show Over n a by simpa[Over] using ho) hg
   exact ⟨scale_len ih.1,by rw[val_scale,ih.2,eval,Rat.mul_comm]⟩
 | .add l,f,ho,h=>by
  rw[linOf] at h
  have hs:=linsOf_val x (show Overs n l by have:=ho; rw[Over] at this; exact this.2)
  have ih:=addOpt_val x hs.1 hs.2 (zero_len n) h
  exact ⟨ih.1,by rw[ih.2,val_zero,eval,Rat.zero_add]⟩
 | .min l,f,ho,h=>by
  rw[linOf] at h
  by_cases hl:l.length>1
  ·rw[if_pos hl] at h; cases h
  ·rw[if_neg hl] at h
   have ho2:l≠[]∧Overs n l:=by have:=ho; rw[Over] at this; exact this
   have hs:=linsOf_val x ho2.2
   have ih:=addOpt_val x hs.1 hs.2 (zero_len n) h
   refine ⟨ih.1,?_⟩
   rw[ih.2,val_zero,eval,Rat.zero_add]
   match l,ho2.1,hl with
   | [a],_,_=>simp[evals,sumOf,leastOf,Rat.add_zero]
   | _::_::_,_,hl=>simp at hl
 | .max l,f,ho,h=>by
  rw[linOf] at h
  by_cases hl:l.length>1
  ·rw[if_pos hl] at h; cases h
  ·rw[if_neg hl] at h
   have ho2:l≠[]∧Overs n l:=by have:=ho; rw[Over] at this; exact this
   have hs:=linsOf_val x ho2.2
   have ih:=addOpt_val x hs.1 hs.2 (zero_len n) h
   refine ⟨ih.1,?_⟩
   rw[ih.2,val_zero,eval,Rat.zero_add]
   match l,ho2.1,hl with
   | [a],_,_=>simp[evals,sumOf,mostOf,Rat.add_zero]
   | _::_::_,_,hl=>simp at hl
theorem linsOf_val {n:Nat} (x:List Rat):∀{l:List GEx},Overs n l→(linsOf n l).length=(evals x l).length∧∀j,j<(linsOf n l).length→∀g,(linsOf n l).getD j none=some g→g.t.length=n∧g.val x=(evals x l).getD j 0
 | [],_=>by
  rw[linsOf,evals]
  exact ⟨rfl,fun j hj=>by simp at hj⟩
 | a::l,ho=>by
  rw[Overs] at ho
  have ih:=linsOf_val x ho.2
  rw[linsOf,evals]
  refine ⟨by simp[ih.1],fun j hj g hg=>?_⟩
  cases j with
  | zero=>
   simp only[List.getD_cons_zero] at hg⊢
   exact linOf_val x ho.1 hg
  | succ j=>
   simp only[List.getD_cons_succ] at hg⊢
   exact ih.2 j (by simpa using hj) g hg
end
inductive Tag where
 | add
 | min
 | max
def mkOp : Tag→List GEx→GEx
 | .add,l=>.add l
 | .min,l=>.min l
 | .max,l=>.max l
def addPart (o:LF):GEx→LF
 | .form g=>o.add g
 | _=>o
def forms (n:Nat) (l:List GEx):LF:=l.foldl addPart (LF.zero n)
theorem Overs_iff {n:Nat}:∀{l:List GEx},Overs n l↔∀a,a∈l→Over n a
 | []=>by simp[Overs]
 | a::l=>by rw[Overs,Overs_iff]; simp
theorem leastOf_cons (a b:Rat) (l:List Rat):leastOf (a::b::l)=if leastOf (b::l)<a then leastOf (b::l) else a:=rfl
theorem mostOf_cons (a b:Rat) (l:List Rat):mostOf (a::b::l)=if a<mostOf (b::l) then mostOf (b::l) else a:=rfl
theorem sumOf_append : ∀(l m:List Rat),sumOf (l++m)=sumOf l+sumOf m
 | [],m=>by rw[List.nil_append,sumOf,Rat.zero_add]
 | a::l,m=>by rw[List.cons_append,sumOf,sumOf,sumOf_append l m]; grind
theorem over_scale {n:Nat} {k:Rat} {a:GEx}:Over n (.scale k a)↔Over n a:=by rw[Over]
theorem over_abs {n:Nat} {a:GEx}:Over n (.abs a)↔Over n a:=by rw[Over]
theorem over_op {n:Nat} {t:Tag} {l:List GEx}:Over n (mkOp t l)↔l≠[]∧∀a,a∈l→Over n a:=by
 cases t<;>rw[mkOp,Over,Overs_iff]
theorem mul_le_pos {k a b:Rat} (hk:0≤k) (h:a≤b):k*a≤k*b:=by
 have:=Rat.mul_nonneg hk (show 0≤b-a by grind)
 grind
theorem mul_le_neg {k a b:Rat} (hk:k<0) (h:a≤b):k*b≤k*a:=by
 have:=Rat.mul_nonneg (show 0≤-k by grind) (show 0≤b-a by grind)
 grind
mutual
def dep : GEx→Nat
 | .form _=>1
 | .scale _ a=>dep a+1
 | .abs a=>dep a+1
 | .add l=>deps l+1
 | .min l=>deps l+1
 | .max l=>deps l+1
def deps : List GEx→Nat
 | []=>0
 | a::l=>Nat.max (dep a) (deps l)
end
theorem deps_iff {m:Nat}:∀{l:List GEx},deps l≤m↔∀a,a∈l→dep a≤m
 | []=>by simp[deps]
 | a::l=>by
  rw[deps]
  have ih:=deps_iff (m:=m) (l:=l)
  have hm:Nat.max (dep a) (deps l)≤m↔dep a≤m∧deps l≤m:=Nat.max_le
  rw[hm,ih]
  simp
def mn (a b:Rat):Rat:=if b<a then b else a
def mx (a b:Rat):Rat:=if a<b then b else a
def ab (a:Rat):Rat:=if a<0 then -a else a
theorem mn_le (a b:Rat):mn a b≤a∧mn a b≤b:=by
 unfold mn
 split<;>constructor<;>grind
theorem mx_le (a b:Rat):a≤mx a b∧b≤mx a b:=by
 unfold mx
 split<;>constructor<;>grind
def spread : List Rat→List (Rat×Rat)→Rat×Rat
 | k::t,p::l=>(mn (k*p.1) (k*p.2)+(spread t l).1,mx (k*p.1) (k*p.2)+(spread t l).2)
 | _,_=>(0,0)
mutual
def bnd (l:List (Rat×Rat)):GEx→Rat×Rat
 | .form f=>(f.c+(spread f.t l).1,f.c+(spread f.t l).2)
 | .scale k a=>(mn (k*(bnd l a).1) (k*(bnd l a).2),mx (k*(bnd l a).1) (k*(bnd l a).2))
 | .add m=>(sumOf ((bnds l m).map (·.1)),sumOf ((bnds l m).map (·.2)))
 | .min m=>(leastOf ((bnds l m).map (·.1)),leastOf ((bnds l m).map (·.2)))
 | .max m=>(mostOf ((bnds l m).map (·.1)),mostOf ((bnds l m).map (·.2)))
 | .abs a=>if (bnd l a).1≤0∧0≤(bnd l a).2 then (0,mx (ab (bnd l a).1) (ab (bnd l a).2)) else (mn (ab (bnd l a).1) (ab (bnd l a).2),mx (ab (bnd l a).1) (ab (bnd l a).2))
def bnds (l:List (Rat×Rat)):List GEx→List (Rat×Rat)
 | []=>[]
 | a::m=>bnd l a::bnds l m
end
def AllIn : List (Rat×Rat)→List Rat→Prop
 | p::l,v::m=>(p.1≤v∧v≤p.2)∧AllIn l m
 | [],[]=>True
 | _,_=>False
theorem scale_in {k a b y:Rat} (h1:a≤y) (h2:y≤b):mn (k*a) (k*b)≤k*y∧k*y≤mx (k*a) (k*b):=by
 have hn:=mn_le (k*a) (k*b)
 have hx:=mx_le (k*a) (k*b)
 by_cases hk:k<0
 ·have e1:=mul_le_neg hk h1
  have e2:=mul_le_neg hk h2
  constructor<;>grind
 ·have e1:=mul_le_pos (Rat.not_lt.1 hk) h1
  have e2:=mul_le_pos (Rat.not_lt.1 hk) h2
  constructor<;>grind
theorem spread_in : ∀(t:List Rat) {l:List (Rat×Rat)} {x:List Rat},AllIn l x→(spread t l).1≤dot t x∧dot t x≤(spread t l).2
 | [],l,x,_=>by
  have e1:spread [] l=(0,0):=by cases l<;>rfl
  have e2:dot [] x=0:=by cases x<;>rfl
  rw[e1,e2]
  exact ⟨Rat.le_refl,Rat.le_refl⟩
 | k::t,[],[],_=>⟨Rat.le_refl,Rat.le_refl⟩
 | k::t,[],_::_,h=>h.elim
 | k::t,_::_,[],h=>h.elim
 | k::t,p::l,y::x,h=>by
  have ih:=spread_in t h.2
  have h1:=scale_in (k:=k) h.1.1 h.1.2
  show mn (k*p.1) (k*p.2)+(spread t l).1≤k*y+dot t x∧k*y+dot t x≤mx (k*p.1) (k*p.2)+(spread t l).2
  constructor<;>grind
theorem sum_in : ∀{l:List (Rat×Rat)} {m:List Rat},AllIn l m→sumOf (l.map (·.1))≤sumOf m∧sumOf m≤sumOf (l.map (·.2))
 | [],[],_=>⟨Rat.le_refl,Rat.le_refl⟩
 | [],_::_,h=>h.elim
 | _::_,[],h=>h.elim
 | p::l,v::m,h=>by
  have ih:=sum_in h.2
  have h1:=h.1
  rw[List.map_cons,List.map_cons,sumOf,sumOf,sumOf]
  constructor<;>grind
theorem least_in : ∀{l:List (Rat×Rat)} {m:List Rat},AllIn l m→leastOf (l.map (·.1))≤leastOf m∧leastOf m≤leastOf (l.map (·.2))
 | [],[],_=>⟨Rat.le_refl,Rat.le_refl⟩
 | [],_::_,h=>h.elim
 | _::_,[],h=>h.elim
 | [p],[v],h=>h.1
 | [_],_::_::_,h=>h.2.elim
 | _::_::_,[_],h=>h.2.elim
 | p::q::l,v::w::m,h=>by
  have ih:=least_in (l:=q::l) (m:=w::m) h.2
  have h1:=h.1
  simp only[List.map_cons] at ih⊢
  rw[leastOf_cons,leastOf_cons,leastOf_cons]
  constructor<;>grind
theorem most_in : ∀{l:List (Rat×Rat)} {m:List Rat},AllIn l m→mostOf (l.map (·.1))≤mostOf m∧mostOf m≤mostOf (l.map (·.2))
 | [],[],_=>⟨Rat.le_refl,Rat.le_refl⟩
 | [],_::_,h=>h.elim
 | _::_,[],h=>h.elim
 | [p],[v],h=>h.1
 | [_],_::_::_,h=>h.2.elim
 | _::_::_,[_],h=>h.2.elim
 | p::q::l,v::w::m,h=>by
  have ih:=most_in (l:=q::l) (m:=w::m) h.2
  have h1:=h.1
  simp only[List.map_cons] at ih⊢
  rw[mostOf_cons,mostOf_cons,mostOf_cons]
  constructor<;>grind
theorem abs_in {p:Rat×Rat} {v:Rat} (h:p.1≤v∧v≤p.2):((if p.1≤0∧0≤p.2 then (0,mx (ab p.1) (ab p.2)) else (mn (ab p.1) (ab p.2),mx (ab p.1) (ab p.2)):Rat×Rat)).1≤ab v∧ab v≤((if p.1≤0∧0≤p.2 then (0,mx (ab p.1) (ab p.2)) else (mn (ab p.1) (ab p.2),mx (ab p.1) (ab p.2)):Rat×Rat)).2:=by
 obtain ⟨a,b⟩:=p
 obtain ⟨h1,h2⟩:=h
 have h3:a≤v:=h1
 have h4:v≤b:=h2
 have hn:=mn_le (ab a) (ab b)
 have hx:=mx_le (ab a) (ab b)
 generalize mn (ab a) (ab b)=N at hn⊢
 generalize mx (ab a) (ab b)=X at hx⊢
 unfold ab at hn hx⊢
 by_cases hc:a≤0∧0≤b
 ·simp only[hc,and_self,if_true]
  constructor<;>grind
 ·simp only[hc,if_false]
  constructor<;>grind
mutual
theorem bnd_in {l:List (Rat×Rat)} {x:List Rat} (h:AllIn l x):∀a:GEx,(bnd l a).1≤eval x a∧eval x a≤(bnd l a).2
 | .form f=>by
  have k:=spread_in f.t h
  rw[bnd,eval]
  unfold LF.val
  constructor<;>grind
 | .scale k a=>by
  have k:=bnd_in h a
  rw[bnd,eval]
  exact scale_in k.1 k.2
 | .abs a=>by
  have k:=bnd_in h a
  rw[bnd,eval]
  exact abs_in k
 | .add m=>by
  have k:=bnds_in h m
  rw[bnd,eval]
  exact sum_in k
 | .min m=>by
  have k:=bnds_in h m
  rw[bnd,eval]
  exact least_in k
 | .max m=>by
  have k:=bnds_in h m
  rw[bnd,eval]
  exact most_in k
theorem bnds_in {l:List (Rat×Rat)} {x:List Rat} (h:AllIn l x):∀m:List GEx,AllIn (bnds l m) (evals x m)
 | []=>by rw[bnds,evals]; trivial
 | a::m=>by
  rw[bnds,evals]
  exact ⟨bnd_in h a,bnds_in h m⟩
end
theorem ab_nonneg (a:Rat):0≤ab a:=by
 unfold ab
 split<;>grind
theorem ab_add (a b:Rat):ab (a+b)≤ab a+ab b:=by
 unfold ab
 split<;>split<;>split<;>grind
theorem ab_is (a:Rat):ab a=a∨ab a = -a:=by
 unfold ab
 split
 ·exact .inr rfl
 ·exact .inl rfl
theorem ab_pos {a:Rat} (h:0≤a):ab a=a:=by
 unfold ab
 split<;>grind
theorem ab_neg (a:Rat):ab (-a)=ab a:=by
 unfold ab
 split<;>split<;>grind
theorem ab_mul (a k:Rat):ab (a*k)=ab a*ab k:=by
 have h:=Rat.mul_nonneg (ab_nonneg a) (ab_nonneg k)
 rcases ab_is a with e1 | e1<;>rcases ab_is k with e2 | e2<;>rw[e1,e2] at h⊢
 ·exact ab_pos h
 ·rw[show a*k = -(a * -k) by grind,ab_neg]; exact ab_pos h
 ·rw[show a*k = -(-a*k) by grind,ab_neg]; exact ab_pos h
 ·rw[show a*k = -a * -k by grind]; exact ab_pos h
def sumAb : List Rat→Rat
 | []=>0
 | a::l=>ab a+sumAb l
theorem sumAb_nonneg : ∀l:List Rat,0≤sumAb l
 | []=>Rat.le_refl
 | a::l=>by
  have h1:=ab_nonneg a
  have h2:=sumAb_nonneg l
  rw[sumAb]
  grind
theorem sumAb_add : ∀l m:List Rat,sumAb (List.zipWith (· + ·) l m)≤sumAb l+sumAb m
 | [],m=>by
  have h:=sumAb_nonneg m
  rw[List.zipWith_nil_left]
  show (0:Rat)≤0+sumAb m
  grind
 | a::l,[]=>by
  have h:=sumAb_nonneg (a::l)
  rw[List.zipWith_nil_right]
  simp only[sumAb] at h⊢
  grind
 | a::l,b::m=>by
  have ih:=sumAb_add l m
  have h:=ab_add a b
  rw[List.zipWith_cons_cons,sumAb,sumAb,sumAb]
  grind
theorem sumAb_scale (k:Rat):∀l:List Rat,sumAb (l.map (· * k))=sumAb l*ab k
 | []=>by rw[List.map_nil,sumAb,Rat.zero_mul]
 | a::l=>by
  rw[List.map_cons,sumAb,sumAb,sumAb_scale k l,ab_mul]
  grind
theorem sumAb_zero : ∀n:Nat,sumAb (List.replicate n 0)=0
 | 0=>rfl
 | n+1=>by
  rw[List.replicate_succ,sumAb,sumAb_zero n,ab_pos Rat.le_refl,Rat.zero_add]
def LF.wt (f:LF):Rat:=1+ab f.c+sumAb f.t
theorem lf_one (f:LF):1≤f.wt:=by
 have h1:=ab_nonneg f.c
 have h2:=sumAb_nonneg f.t
 unfold LF.wt
 grind
theorem lf_zero (n:Nat):(LF.zero n).wt=1:=by
 unfold LF.wt LF.zero
 rw[sumAb_zero,ab_pos Rat.le_refl]
 grind
theorem lf_add (f g:LF):(f.add g).wt+1≤f.wt+g.wt:=by
 have h1:=ab_add f.c g.c
 have h2:=sumAb_add f.t g.t
 unfold LF.wt LF.add
 show 1+ab (f.c+g.c)+sumAb (List.zipWith (· + ·) f.t g.t)+1≤_
 grind
def big (k:Rat):Rat:=mx (ab k) 1
theorem big_one (k:Rat):1≤big k:=(mx_le (ab k) 1).2
theorem big_ab (k:Rat):ab k≤big k:=(mx_le (ab k) 1).1
theorem lf_scale (f:LF) (k:Rat):(f.scale k).wt≤big k*f.wt:=by
 have h1:=big_one k
 have h3:=Rat.mul_nonneg (show 0≤big k-ab k by have:=big_ab k; grind) (ab_nonneg f.c)
 have h4:=Rat.mul_nonneg (show 0≤big k-ab k by have:=big_ab k; grind) (sumAb_nonneg f.t)
 unfold LF.wt LF.scale
 show 1+ab (f.c*k)+sumAb (f.t.map (· * k))≤_
 rw[ab_mul,sumAb_scale]
 grind
mutual
def wt : GEx→Rat
 | .form f=>f.wt
 | .scale k a=>big k*wt a
 | .add l=>wts l
 | .min l=>wts l
 | .max l=>wts l
 | .abs a=>wt a
def wts : List GEx→Rat
 | []=>0
 | a::l=>wt a+wts l
end
theorem wts_map : ∀l:List GEx,wts l=sumOf (l.map wt)
 | []=>rfl
 | a::l=>by rw[wts,wts_map l,List.map_cons,sumOf]
theorem wts_app (l m:List GEx):wts (l++m)=wts l+wts m:=by rw[wts_map,wts_map,wts_map,List.map_append,sumOf_append]
mutual
theorem wt_nonneg : ∀a:GEx,0≤wt a
 | .form f=>by have:=lf_one f; rw[wt]; grind
 | .scale k a=>by rw[wt]; exact Rat.mul_nonneg (by have:=big_one k; grind) (wt_nonneg a)
 | .add l=>by rw[wt]; exact wts_nonneg l
 | .min l=>by rw[wt]; exact wts_nonneg l
 | .max l=>by rw[wt]; exact wts_nonneg l
 | .abs a=>by rw[wt]; exact wt_nonneg a
theorem wts_nonneg : ∀l:List GEx,0≤wts l
 | []=>by rw[wts]; exact Rat.le_refl
 | a::l=>by
  have h1:=wt_nonneg a
  have h2:=wts_nonneg l
  rw[wts]
  grind
end
theorem le_big (k:Rat) {v:Rat} (h:0≤v):v≤big k*v:=by
 have:=Rat.mul_nonneg (show 0≤big k-1 by have:=big_one k; grind) h
 grind
theorem addOpt_wt {n:Nat}:∀{l:List GEx} {o f:LF},(∀a,a∈l→∀g,linOf n a=some g→g.wt≤wt a)→addOpt n (linsOf n l) (some o)=some f→f.wt+l.length≤o.wt+wts l
 | [],o,f,_,e=>by
  have h:o=f:=by simpa[linsOf,addOpt] using e
  rw[h,wts]
  simp
 | a::l,o,f,h,e=>by
  rw[linsOf] at e
  cases hl:linOf n a with
  | none=>rw[hl] at e; cases l<;>simp[addOpt] at e
  | some g=>
   rw[hl,addOpt] at e
   have ih:=addOpt_wt (fun b hb=>h b (by simp[hb])) e
   have h1:=h a (by simp) g hl
   have h2:=lf_add o g
   rw[wts,List.length_cons]
   push_cast
   grind
theorem one_wt {n:Nat}:∀{a:GEx},Over n a→1≤wt a
 | .form f,_=>by rw[wt]; exact lf_one f
 | .scale k a,h=>by
  have h1:=one_wt (over_scale.1 h)
  have h2:=le_big k (wt_nonneg a)
  rw[wt]
  grind
 | .abs a,h=>by rw[wt]; exact one_wt (over_abs.1 h)
 | .add [],h=>absurd rfl ((over_op (t:=.add)).1 h).1
 | .min [],h=>absurd rfl ((over_op (t:=.min)).1 h).1
 | .max [],h=>absurd rfl ((over_op (t:=.max)).1 h).1
 | .add (a::l),h=>by
  have h1:=one_wt (((over_op (t:=.add)).1 h).2 a (by simp))
  have h2:=wts_nonneg l
  rw[wt,wts]
  grind
 | .min (a::l),h=>by
  have h1:=one_wt (((over_op (t:=.min)).1 h).2 a (by simp))
  have h2:=wts_nonneg l
  rw[wt,wts]
  grind
 | .max (a::l),h=>by
  have h1:=one_wt (((over_op (t:=.max)).1 h).2 a (by simp))
  have h2:=wts_nonneg l
  rw[wt,wts]
  grind
theorem adds_wt {n:Nat} {l:List GEx} {f:LF} (hl:l≠[]) (h:∀a,a∈l→∀g,linOf n a=some g→g.wt≤wt a) (e:addOpt n (linsOf n l) (some (LF.zero n))=some f):f.wt≤wts l:=by
 have k:=addOpt_wt h e
 rw[lf_zero] at k
 have h1:(1:Rat)≤(l.length:Rat):=by
  cases l with
  | nil=>exact absurd rfl hl
  | cons a l=>
   rw[List.length_cons]
   push_cast
   have:(0:Rat)≤(l.length:Rat):=by exact_mod_cast Nat.zero_le _
   grind
 grind
theorem lin_wt {n:Nat}:∀{a:GEx} {f:LF},Over n a→linOf n a=some f→f.wt≤wt a
 | .form g,f,_,e=>by
  have h:g=f:=by simpa[linOf] using e
  rw[h,wt]
  exact Rat.le_refl
 | .abs a,f,_,e=>by simp[linOf] at e
 | .scale k a,f,ho,e=>by
  rw[linOf] at e
  have h1:=one_wt (over_scale.1 ho)
  rw[wt]
  split at e
  ·have h:LF.zero n=f:=by simpa using e
   rw[←h,lf_zero]
   have h2:=le_big k (wt_nonneg a)
   grind
  ·obtain ⟨g,hg,rfl⟩:=Option.map_eq_some_iff.1 e
   have ih:=lin_wt (over_scale.1 ho) hg
   have h2:=lf_scale g k
   have h3:=mul_le_pos (show 0≤big k by have:=big_one k; grind) ih
   grind
 | .add l,f,ho,e=>by
  have h:=(over_op (t:=.add)).1 ho
  rw[linOf] at e
  rw[wt]
  exact adds_wt h.1 (fun a ha g hg=>lin_wt (h.2 a ha) hg) e
 | .min l,f,ho,e=>by
  have h:=(over_op (t:=.min)).1 ho
  rw[linOf] at e
  rw[wt]
  split at e
  ·cases e
  ·exact adds_wt h.1 (fun a ha g hg=>lin_wt (h.2 a ha) hg) e
 | .max l,f,ho,e=>by
  have h:=(over_op (t:=.max)).1 ho
  rw[linOf] at e
  rw[wt]
  split at e
  ·cases e
  ·exact adds_wt h.1 (fun a ha g hg=>lin_wt (h.2 a ha) hg) e
def M2 (e:Nat) (r:Rat):Prop:=∃z:Int,r*((2^e:Int):Rat)=z
theorem m2_zero (e:Nat):M2 e 0:=⟨0,by rw[Rat.zero_mul]; rfl⟩
theorem m2_add {e:Nat} {r s:Rat} (h:M2 e r) (k:M2 e s):M2 e (r+s):=by
 obtain ⟨y,hy⟩:=h
 obtain ⟨z,hz⟩:=k
 exact ⟨y+z,by rw[Rat.intCast_add,←hy,←hz]; grind⟩
theorem m2_mul {d e:Nat} {r s:Rat} (h:M2 d r) (k:M2 e s):M2 (d+e) (r*s):=by
 obtain ⟨y,hy⟩:=h
 obtain ⟨z,hz⟩:=k
 refine ⟨y*z,?_⟩
 rw[Rat.intCast_mul,←hy,←hz,Int.pow_add,Rat.intCast_mul]
 grind
theorem m2_more {e:Nat} {r:Rat} (h:M2 e r) (d:Nat):M2 (d+e) r:=by
 have h1:M2 d 1:=⟨2^d,by rw[Rat.one_mul]⟩
 have h2:=m2_mul h1 h
 rwa[Rat.one_mul] at h2
def LD (e:Nat) (f:LF):Prop:=M2 e f.c∧∀r,r∈f.t→M2 e r
theorem ld_zero (e n:Nat):LD e (LF.zero n):=⟨m2_zero e,fun r hr=>by rw[List.eq_of_mem_replicate hr]; exact m2_zero e⟩
theorem zip_m2 {e:Nat}:∀{l m:List Rat},(∀r,r∈l→M2 e r)→(∀r,r∈m→M2 e r)→∀r,r∈List.zipWith (· + ·) l m→M2 e r
 | [],m,_,_,r,hr=>by simp at hr
 | _::_,[],_,_,r,hr=>by simp at hr
 | a::l,b::m,h,k,r,hr=>by
  rw[List.zipWith_cons_cons] at hr
  rcases List.mem_cons.1 hr with rfl | hr
  ·exact m2_add (h a (by simp)) (k b (by simp))
  ·exact zip_m2 (fun r hr=>h r (by simp[hr])) (fun r hr=>k r (by simp[hr])) r hr
theorem ld_add {e:Nat} {f g:LF} (h:LD e f) (k:LD e g):LD e (f.add g):=⟨m2_add h.1 k.1,zip_m2 h.2 k.2⟩
theorem ld_scale {d e:Nat} {k:Rat} {f:LF} (hk:M2 d k) (h:LD e f):LD (d+e) (f.scale k):=by
 refine ⟨?_,fun r hr=>?_⟩
 ·show M2 (d+e) (f.c*k)
  rw[Rat.mul_comm]
  exact m2_mul hk h.1
 ·obtain ⟨s,hs,rfl⟩:=List.mem_map.1 hr
  show M2 (d+e) (s*k)
  rw[Rat.mul_comm]
  exact m2_mul hk (h.2 s hs)
theorem ld_more {e:Nat} {f:LF} (h:LD e f) (d:Nat):LD (d+e) f:=⟨m2_more h.1 d,fun r hr=>m2_more (h.2 r hr) d⟩
mutual
def Den (e:Nat):GEx→Prop
 | .form f=>LD e f
 | .scale k a=>∃d r,d+r=e∧M2 d k∧Den r a
 | .add l=>Dens e l
 | .min l=>Dens e l
 | .max l=>Dens e l
 | .abs a=>Den e a
def Dens (e:Nat):List GEx→Prop
 | []=>True
 | a::l=>Den e a∧Dens e l
end
theorem Dens_iff {e:Nat}:∀{l:List GEx},Dens e l↔∀a,a∈l→Den e a
 | []=>by simp[Dens]
 | a::l=>by rw[Dens,Dens_iff]; simp
theorem den_op {e:Nat} {t:Tag} {l:List GEx}:Den e (mkOp t l)↔∀a,a∈l→Den e a:=by
 cases t<;>rw[mkOp,Den,Dens_iff]
theorem den_more : ∀{e:Nat} {a:GEx},Den e a→∀d,Den (d+e) a
 | e,.form f,h,d=>by rw[Den] at h⊢; exact ld_more h d
 | e,.scale k a,h,d=>by
  rw[Den] at h⊢
  obtain ⟨c,r,rfl,h1,h2⟩:=h
  exact ⟨c,d+r,by omega,h1,den_more h2 d⟩
 | e,.abs a,h,d=>by rw[Den] at h⊢; exact den_more h d
 | e,.add l,h,d=>(den_op (t:=.add)).2 fun a ha=>den_more ((den_op (t:=.add)).1 h a ha) d
 | e,.min l,h,d=>(den_op (t:=.min)).2 fun a ha=>den_more ((den_op (t:=.min)).1 h a ha) d
 | e,.max l,h,d=>(den_op (t:=.max)).2 fun a ha=>den_more ((den_op (t:=.max)).1 h a ha) d
theorem addOpt_den {n e:Nat}:∀{l:List GEx} {o f:LF},LD e o→(∀a,a∈l→∀g,linOf n a=some g→LD e g)→addOpt n (linsOf n l) (some o)=some f→LD e f
 | [],o,f,ho,_,h=>by
  have k:o=f:=by simpa[linsOf,addOpt] using h
  rw[←k]
  exact ho
 | a::l,o,f,ho,hg,h=>by
  rw[linsOf] at h
  cases hl:linOf n a with
  | none=>rw[hl] at h; cases l<;>simp[addOpt] at h
  | some g=>
   rw[hl,addOpt] at h
   exact addOpt_den (ld_add ho (hg a (by simp) g hl)) (fun b hb=>hg b (by simp[hb])) h
theorem lin_den {n:Nat}:∀{e:Nat} {a:GEx} {f:LF},Den e a→linOf n a=some f→LD e f
 | e,.form g,f,hd,h=>by
  have k:g=f:=by simpa[linOf] using h
  rw[Den] at hd
  rw[←k]
  exact hd
 | e,.abs a,f,_,h=>by simp[linOf] at h
 | e,.scale k a,f,hd,h=>by
  rw[linOf] at h
  rw[Den] at hd
  obtain ⟨c,q,rfl,h1,h2⟩:=hd
  split at h
  ·have k:LF.zero n=f:=by simpa using h
   rw[←k]
   exact ld_zero _ n
  ·obtain ⟨g,hg,rfl⟩:=Option.map_eq_some_iff.1 h
   exact ld_scale h1 (lin_den h2 hg)
 | e,.add l,f,hd,h=>by
  rw[linOf] at h
  exact addOpt_den (ld_zero e n) (fun a ha g hg=>lin_den ((den_op (t:=.add)).1 hd a ha) hg) h
 | e,.min l,f,hd,h=>by
  rw[linOf] at h
  split at h
  ·cases h
  ·exact addOpt_den (ld_zero e n) (fun a ha g hg=>lin_den ((den_op (t:=.min)).1 hd a ha) hg) h
 | e,.max l,f,hd,h=>by
  rw[linOf] at h
  split at h
  ·cases h
  ·exact addOpt_den (ld_zero e n) (fun a ha g hg=>lin_den ((den_op (t:=.max)).1 hd a ha) hg) h
end Go.Gx
