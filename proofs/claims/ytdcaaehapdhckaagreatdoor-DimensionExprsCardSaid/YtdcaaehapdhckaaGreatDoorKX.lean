/- Grown expressions, of no program: forms over so many dimensions, values, normal forms. -/
import Derived.Test.YtdcaaehapdhckaaGreatDoorProg
set_option linter.unusedSimpArgs false
set_option linter.unusedVariables false
set_option maxRecDepth 100000
namespace Go.Gx

structure LF where
 c:Rat
 t:List Rat
deriving DecidableEq
def LF.zero (n:Nat):LF:=⟨0,List.replicate n 0⟩
def LF.add (f g:LF):LF:=⟨f.c+g.c,List.zipWith (· + ·) f.t g.t⟩
def LF.scale (f:LF) (k:Rat):LF:=⟨f.c*k,f.t.map (· * k)⟩
def dot : List Rat→List Rat→Rat
 | a::l,b::m=>a*b+dot l m
 | _,_=>0
def LF.val (f:LF) (x:List Rat):Rat:=f.c+dot f.t x
inductive GEx where
 | form (f:LF)
 | scale (k:Rat) (a:GEx)
 | add (l:List GEx)
 | min (l:List GEx)
 | max (l:List GEx)
 | abs (a:GEx)
theorem dot_zero : ∀(n:Nat) (x:List Rat),dot (List.replicate n 0) x=0
 | 0,x=>by simp[dot]
 | n+1,[]=>by simp[List.replicate_succ,dot]
 | n+1,b::x=>by rw[List.replicate_succ,dot,dot_zero n x]; grind
theorem dot_add : ∀(a b x:List Rat),a.length=b.length→dot (List.zipWith (· + ·) a b) x=dot a x+dot b x
 | [],[],x,_=>by simp[dot,Rat.add_zero]
 | [],_::_,_,h=>by simp at h
 | _::_,[],_,h=>by simp at h
 | a::l,b::m,[],_=>by simp[dot,Rat.add_zero]
 | a::l,b::m,y::x,h=>by
  rw[List.zipWith_cons_cons,dot,dot,dot,dot_add l m x (by simpa using h)]
  grind
theorem dot_scale (k:Rat):∀(a x:List Rat),dot (a.map (· * k)) x=dot a x*k
 | [],x=>by simp[dot,Rat.zero_mul]
 | a::l,[]=>by simp[dot,Rat.zero_mul]
 | a::l,y::x=>by
  rw[List.map_cons,dot,dot,dot_scale k l x]
  grind
theorem val_zero (n:Nat) (x:List Rat):(LF.zero n).val x=0:=by
 unfold LF.zero LF.val
 rw[dot_zero]
 grind
theorem val_add {f g:LF} (h:f.t.length=g.t.length) (x:List Rat):(f.add g).val x=f.val x+g.val x:=by
 unfold LF.add LF.val
 rw[dot_add _ _ _ h]
 grind
theorem val_scale (f:LF) (k:Rat) (x:List Rat):(f.scale k).val x=f.val x*k:=by
 unfold LF.scale LF.val
 rw[dot_scale]
 grind
theorem add_len {f g:LF} {n:Nat} (h:f.t.length=n) (k:g.t.length=n):(f.add g).t.length=n:=by unfold LF.add; simp[h,k]
theorem scale_len {f:LF} {n:Nat} {k:Rat} (h:f.t.length=n):(f.scale k).t.length=n:=by unfold LF.scale; simp[h]
theorem zero_len (n:Nat):(LF.zero n).t.length=n:=by unfold LF.zero; simp
theorem zero_add {f:LF} {n:Nat} (h:f.t.length=n):(LF.zero n).add f=f:=by
 obtain ⟨c,t⟩:=f
 have ht:∀(n:Nat) (t:List Rat),t.length=n→List.zipWith (· + ·) (List.replicate n 0) t=t:=by
  intro n
  induction n with
  | zero=>intro t h; rw[List.eq_nil_of_length_eq_zero h]; rfl
  | succ n ih=>
   intro t h
   cases t with
   | nil=>simp at h
   | cons a t=>
    rw[List.replicate_succ,List.zipWith_cons_cons,ih t (by simpa using h),Rat.zero_add]
 unfold LF.add LF.zero
 rw[ht n t h,Rat.zero_add]
def leastOf : List Rat→Rat
 | []=>0
 | [a]=>a
 | a::l=>if leastOf l<a then leastOf l else a
def mostOf : List Rat→Rat
 | []=>0
 | [a]=>a
 | a::l=>if a<mostOf l then mostOf l else a
def sumOf : List Rat→Rat
 | []=>0
 | a::l=>a+sumOf l
mutual
def eval (x:List Rat):GEx→Rat
 | .form f=>f.val x
 | .scale k a=>k*eval x a
 | .add l=>sumOf (evals x l)
 | .min l=>leastOf (evals x l)
 | .max l=>mostOf (evals x l)
 | .abs a=>if eval x a<0 then -eval x a else eval x a
def evals (x:List Rat):List GEx→List Rat
 | []=>[]
 | a::l=>eval x a::evals x l
end
def addOpt (n:Nat):List (Option LF)→Option LF→Option LF
 | [],o=>o
 | none::_,_=>none
 | some f::l,some o=>addOpt n l (some (o.add f))
 | some _::_,none=>none
mutual
def linOf (n:Nat):GEx→Option LF
 | .form f=>some f
 | .abs _=>none
 | .scale k a=>if k=0 then some (LF.zero n) else (linOf n a).map (·.scale k)
 | .add l=>addOpt n (linsOf n l) (some (LF.zero n))
 | .min l=>if l.length>1 then none else addOpt n (linsOf n l) (some (LF.zero n))
 | .max l=>if l.length>1 then none else addOpt n (linsOf n l) (some (LF.zero n))
def linsOf (n:Nat):List GEx→List (Option LF)
 | []=>[]
 | a::l=>linOf n a::linsOf n l
end
mutual
def Over (n:Nat):GEx→Prop
 | .form f=>f.t.length=n
 | .scale _ a=>Over n a
 | .add l=>l≠[]∧Overs n l
 | .min l=>l≠[]∧Overs n l
 | .max l=>l≠[]∧Overs n l
 | .abs a=>Over n a
def Overs (n:Nat):List GEx→Prop
 | []=>True
 | a::l=>Over n a∧Overs n l
end
theorem addOpt_val {n:Nat} (x:List Rat):∀{l:List (Option LF)} {vs:List Rat} {o f:LF},(l.length=vs.length)→(∀j,j<l.length→∀g,l.getD j none=some g→g.t.length=n∧g.val x=vs.getD j 0)→o.t.length=n→addOpt n l (some o)=some f→f.t.length=n∧f.val x=o.val x+sumOf vs
 | [],vs,o,f,hl,_,ho,h=>by
  have hv:vs = []:=List.eq_nil_of_length_eq_zero hl.symm
  have e:o=f:=by simpa[addOpt] using h
  subst e hv
  exact ⟨ho,by rw[sumOf,Rat.add_zero]⟩
 | none::l,vs,o,f,_,_,_,h=>by simp[addOpt] at h
 | some g::l,[],o,f,hl,_,_,_=>by simp at hl
 | some g::l,v::vs,o,f,hl,hg,ho,h=>by
  rw[addOpt] at h
  have h0:=hg 0 (by simp) g rfl
  have ih:=addOpt_val x (l:=l) (vs:=vs) (o:=o.add g) (by simpa using hl) (fun j hj g' hg'=>hg (j+1) (by simpa using hj) g' (by simpa using hg')) (add_len ho h0.1) h
  refine ⟨ih.1,?_⟩
  rw[ih.2,val_add (by rw[ho,h0.1]),h0.2,sumOf]
  simp only[List.getD_cons_zero]
  grind
theorem leastOf_one (a:Rat):leastOf [a]=a:=rfl
mutual
theorem linOf_val {n:Nat} (x:List Rat):∀{e:GEx} {f:LF},Over n e→linOf n e=some f→f.t.length=n∧f.val x=eval x e
 | .form g,f,ho,h=>by
  have e:g=f:=by simpa[linOf] using h
  subst e
  exact ⟨ho,by rw[eval]⟩
 | .abs a,f,_,h=>by simp[linOf] at h
 | .scale k a,f,ho,h=>by
  rw[linOf] at h
  by_cases hk:k=0
  ·rw[if_pos hk] at h
   have e:LF.zero n=f:=by simpa using h
   subst e
   exact ⟨zero_len n,by rw[val_zero,eval,hk,Rat.zero_mul]⟩
  ·rw[if_neg hk] at h
   obtain ⟨g,hg,rfl⟩:=Option.map_eq_some_iff.1 h
   have ih:=linOf_val x (show Over n a by simpa[Over] using ho) hg
   exact ⟨scale_len ih.1,by rw[val_scale,ih.2,eval,Rat.mul_comm]⟩
 | .add l,f,ho,h=>by
  rw[linOf] at h
  have hs:=linsOf_val x (show Overs n l by have:=ho; rw[Over] at this; exact this.2)
  have ih:=addOpt_val x hs.1 hs.2 (zero_len n) h
  exact ⟨ih.1,by rw[ih.2,val_zero,eval,Rat.zero_add]⟩
 | .min l,f,ho,h=>by
  rw[linOf] at h
  by_cases hl:l.length>1
  ·rw[if_pos hl] at h; cases h
  ·rw[if_neg hl] at h
   have ho2:l≠[]∧Overs n l:=by have:=ho; rw[Over] at this; exact this
   have hs:=linsOf_val x ho2.2
   have ih:=addOpt_val x hs.1 hs.2 (zero_len n) h
   refine ⟨ih.1,?_⟩
   rw[ih.2,val_zero,eval,Rat.zero_add]
   match l,ho2.1,hl with
   | [a],_,_=>simp[evals,sumOf,leastOf,Rat.add_zero]
   | _::_::_,_,hl=>simp at hl
 | .max l,f,ho,h=>by
  rw[linOf] at h
  by_cases hl:l.length>1
  ·rw[if_pos hl] at h; cases h
  ·rw[if_neg hl] at h
   have ho2:l≠[]∧Overs n l:=by have:=ho; rw[Over] at this; exact this
   have hs:=linsOf_val x ho2.2
   have ih:=addOpt_val x hs.1 hs.2 (zero_len n) h
   refine ⟨ih.1,?_⟩
   rw[ih.2,val_zero,eval,Rat.zero_add]
   match l,ho2.1,hl with
   | [a],_,_=>simp[evals,sumOf,mostOf,Rat.add_zero]
   | _::_::_,_,hl=>simp at hl
theorem linsOf_val {n:Nat} (x:List Rat):∀{l:List GEx},Overs n l→(linsOf n l).length=(evals x l).length∧∀j,j<(linsOf n l).length→∀g,(linsOf n l).getD j none=some g→g.t.length=n∧g.val x=(evals x l).getD j 0
 | [],_=>by
  rw[linsOf,evals]
  exact ⟨rfl,fun j hj=>by simp at hj⟩
 | a::l,ho=>by
  rw[Overs] at ho
  have ih:=linsOf_val x ho.2
  rw[linsOf,evals]
  refine ⟨by simp[ih.1],fun j hj g hg=>?_⟩
  cases j with
  | zero=>
   simp only[List.getD_cons_zero] at hg⊢
   exact linOf_val x ho.1 hg
  | succ j=>
   simp only[List.getD_cons_succ] at hg⊢
   exact ih.2 j (by simpa using hj) g hg
end
mutual
def same : GEx→GEx→Bool
 | .form f,.form g=>decide (f=g)
 | .scale k a,.scale l b=>decide (k=l)&&same a b
 | .add l,.add m=>sames l m
 | .min l,.min m=>sames l m
 | .max l,.max m=>sames l m
 | .abs a,.abs b=>same a b
 | _,_=>false
def sames : List GEx→List GEx→Bool
 | [],[]=>true
 | a::l,b::m=>same a b&&sames l m
 | _,_=>false
end
mutual
theorem same_iff : ∀{x y:GEx},same x y=true↔x=y
 | .form f,y=>by cases y<;>simp[same]
 | .scale k a,y=>by
  cases y with
  | scale l b=>rw[same,Bool.and_eq_true,decide_eq_true_iff,same_iff]; simp
  | _=>simp[same]
 | .add l,y=>by
  cases y with
  | add m=>rw[same,sames_iff]; simp
  | _=>simp[same]
 | .min l,y=>by
  cases y with
  | min m=>rw[same,sames_iff]; simp
  | _=>simp[same]
 | .max l,y=>by
  cases y with
  | max m=>rw[same,sames_iff]; simp
  | _=>simp[same]
 | .abs a,y=>by
  cases y with
  | abs b=>rw[same,same_iff]; simp
  | _=>simp[same]
theorem sames_iff : ∀{l m:List GEx},sames l m=true↔l=m
 | [],[]=>by simp[sames]
 | [],_::_=>by simp[sames]
 | _::_,[]=>by simp[sames]
 | a::l,b::m=>by rw[sames,Bool.and_eq_true,same_iff,sames_iff]; simp
end
inductive Tag where
 | add
 | min
 | max
def mkOp : Tag→List GEx→GEx
 | .add,l=>.add l
 | .min,l=>.min l
 | .max,l=>.max l
def argsOf : Tag→GEx→List GEx
 | .add,.add l=>l
 | .min,.min l=>l
 | .max,.max l=>l
 | _,y=>[y]
def joined (g:Tag):List GEx→GEx
 | [a]=>a
 | l=>mkOp g l
def isForm : GEx→Bool
 | .form _=>true
 | _=>false
def addPart (o:LF):GEx→LF
 | .form g=>o.add g
 | _=>o
def forms (n:Nat) (l:List GEx):LF:=l.foldl addPart (LF.zero n)
def sumNF (n:Nat) (ps:List GEx):GEx:=
 if forms n ps≠LF.zero n∨ps.filter (fun y=>!isForm y) = [] then joined .add (.form (forms n ps)::ps.filter fun y=>!isForm y) else joined .add (ps.filter fun y=>!isForm y)
def dedupe : List GEx→List GEx→List GEx
 | [],out=>out
 | y::l,out=>if out.any (fun z=>same y z) then dedupe l out else dedupe l (out++[y])
def choiceNF (g:Tag) (ps:List GEx):GEx:=joined g (dedupe ps [])
def flip (k:Rat):Tag→Tag
 | .min=>if k<0 then .max else .min
 | .max=>if k<0 then .min else .max
 | .add=>.add
def partsW (g:GEx→Option GEx) (t:Tag):List GEx→Option (List GEx)
 | []=>some []
 | a::l=>(g a).bind fun y=>(partsW g t l).map fun ps=>argsOf t y++ps
def timesW (g:GEx→Option GEx) (n:Nat) (k:Rat):GEx→Option GEx
 | .form f=>some (.form (f.scale k))
 | .add ys=>(partsW g .add (ys.map (.scale k))).map (sumNF n)
 | .min ys=>(partsW g (flip k .min) (ys.map (.scale k))).map (choiceNF (flip k .min))
 | .max ys=>(partsW g (flip k .max) (ys.map (.scale k))).map (choiceNF (flip k .max))
 | .scale l y=>some (if k*l=1 then y else .scale (k*l) y)
 | .abs y=>some (if k=1 then .abs y else .scale k (.abs y))
def lead : List Rat→Rat
 | []=>0
 | a::l=>if a=0 then lead l else a
def magn : GEx→GEx
 | .form f=>if lead f.t=0 then .form ⟨if f.c<0 then -f.c else f.c,f.t⟩ else if lead f.t<0 then .abs (.form (f.scale (-1))) else .abs (.form f)
 | y=>.abs y
def wayW (n:Nat) (g:GEx→Option GEx):GEx→Option GEx
 | .form f=>some (.form f)
 | .add l=>(partsW g .add l).map (sumNF n)
 | .min l=>(partsW g .min l).map (choiceNF .min)
 | .max l=>(partsW g .max l).map (choiceNF .max)
 | .scale k a=>(g a).bind (timesW g n k)
 | .abs a=>(g a).map magn
def stepW (n:Nat) (g:GEx→Option GEx) (x:GEx):Option GEx:=
 match linOf n x with
 | some f=>some (.form f)
 | none=>wayW n g x
def normF (n:Nat):Nat→GEx→Option GEx
 | 0=>fun _=>none
 | f+1=>stepW n (normF n f)
theorem normF_succ (n f:Nat) (x:GEx):normF n (f+1) x=stepW n (normF n f) x:=rfl
theorem normF_none (n:Nat) (x:GEx):normF n 0 x=none:=rfl
theorem step_some {n:Nat} {g:GEx→Option GEx} {x:GEx} {f:LF} (h:linOf n x=some f):stepW n g x=some (.form f):=by
 unfold stepW
 rw[h]
theorem step_none {n:Nat} {g:GEx→Option GEx} {x:GEx} (h:linOf n x=none):stepW n g x=wayW n g x:=by
 unfold stepW
 rw[h]
theorem partsW_more {g h:GEx→Option GEx} (hg:∀x y,g x=some y→h x=some y) (t:Tag):∀{l ps:List GEx},partsW g t l=some ps→partsW h t l=some ps
 | [],ps,e=>e
 | a::l,ps,e=>by
  rw[partsW] at e⊢
  obtain ⟨y,h1,h2⟩:=Option.bind_eq_some_iff.1 e
  obtain ⟨qs,h3,h4⟩:=Option.map_eq_some_iff.1 h2
  rw[hg a y h1,Option.bind_some,partsW_more hg t h3,Option.map_some,h4]
theorem timesW_more {g h:GEx→Option GEx} (hg:∀x y,g x=some y→h x=some y) {n:Nat} {k:Rat} {y z:GEx} (e:timesW g n k y=some z):timesW h n k y=some z:=by
 cases y with
 | form f=>exact e
 | scale l y=>exact e
 | abs y=>exact e
 | add ys=>
  rw[timesW] at e⊢
  obtain ⟨ps,h1,h2⟩:=Option.map_eq_some_iff.1 e
  rw[partsW_more hg _ h1,Option.map_some,h2]
 | min ys=>
  rw[timesW] at e⊢
  obtain ⟨ps,h1,h2⟩:=Option.map_eq_some_iff.1 e
  rw[partsW_more hg _ h1,Option.map_some,h2]
 | max ys=>
  rw[timesW] at e⊢
  obtain ⟨ps,h1,h2⟩:=Option.map_eq_some_iff.1 e
  rw[partsW_more hg _ h1,Option.map_some,h2]
theorem normF_more {n:Nat}:∀{f:Nat} {x y:GEx},normF n f x=some y→normF n (f+1) x=some y
 | 0,x,y,e=>absurd ((normF_none n x).symm.trans e) (by simp)
 | f+1,x,y,e=>by
  have ih:=fun x y=>normF_more (n:=n) (f:=f) (x:=x) (y:=y)
  rw[normF_succ] at e⊢
  cases hl:linOf n x with
  | some g=>rw[step_some hl] at e⊢; exact e
  | none=>
   rw[step_none hl] at e⊢
   cases x with
   | form g=>exact e
   | add l=>
    obtain ⟨ps,h1,h2⟩:=Option.map_eq_some_iff.1 e
    show (partsW (normF n (f+1)) .add l).map (sumNF n)=some y
    rw[partsW_more ih _ h1,Option.map_some,h2]
   | min l=>
    obtain ⟨ps,h1,h2⟩:=Option.map_eq_some_iff.1 e
    show (partsW (normF n (f+1)) .min l).map (choiceNF .min)=some y
    rw[partsW_more ih _ h1,Option.map_some,h2]
   | max l=>
    obtain ⟨ps,h1,h2⟩:=Option.map_eq_some_iff.1 e
    show (partsW (normF n (f+1)) .max l).map (choiceNF .max)=some y
    rw[partsW_more ih _ h1,Option.map_some,h2]
   | scale k a=>
    obtain ⟨b,h1,h2⟩:=Option.bind_eq_some_iff.1 e
    show (normF n (f+1) a).bind (timesW (normF n (f+1)) n k)=some y
    rw[ih a b h1,Option.bind_some]
    exact timesW_more ih h2
   | abs a=>
    obtain ⟨b,h1,h2⟩:=Option.map_eq_some_iff.1 e
    show (normF n (f+1) a).map magn=some y
    rw[ih a b h1,Option.map_some,h2]
theorem evals_map (x:List Rat):∀l:List GEx,evals x l=l.map (eval x)
 | []=>rfl
 | a::l=>by rw[evals,evals_map x l]; rfl
theorem Overs_iff {n:Nat}:∀{l:List GEx},Overs n l↔∀a,a∈l→Over n a
 | []=>by simp[Overs]
 | a::l=>by rw[Overs,Overs_iff]; simp
def IsLeast (l:List Rat) (v:Rat):Prop:=v∈l∧∀a,a∈l→v≤a
def IsMost (l:List Rat) (v:Rat):Prop:=v∈l∧∀a,a∈l→a≤v
theorem leastOf_cons (a b:Rat) (l:List Rat):leastOf (a::b::l)=if leastOf (b::l)<a then leastOf (b::l) else a:=rfl
theorem mostOf_cons (a b:Rat) (l:List Rat):mostOf (a::b::l)=if a<mostOf (b::l) then mostOf (b::l) else a:=rfl
theorem leastOf_is : ∀{l:List Rat},l≠[]→IsLeast l (leastOf l)
 | [],h=>absurd rfl h
 | [a],_=>⟨by simp[leastOf],fun b hb=>by
   have:b=a:=by simpa using hb
   rw[this]; exact Rat.le_refl⟩
 | a::b::l,_=>by
  have ih:=leastOf_is (l:=b::l) (by simp)
  rw[leastOf_cons]
  split
  ·rename_i h
   refine ⟨by simp only[List.mem_cons]; exact .inr (by simpa using ih.1),fun c hc=>?_⟩
   rcases List.mem_cons.1 hc with rfl | hc
   ·grind
   ·exact ih.2 c hc
  ·rename_i h
   refine ⟨by simp,fun c hc=>?_⟩
   rcases List.mem_cons.1 hc with rfl | hc
   ·exact Rat.le_refl
   ·have:=ih.2 c hc
    grind
theorem mostOf_is : ∀{l:List Rat},l≠[]→IsMost l (mostOf l)
 | [],h=>absurd rfl h
 | [a],_=>⟨by simp[mostOf],fun b hb=>by
   have:b=a:=by simpa using hb
   rw[this]; exact Rat.le_refl⟩
 | a::b::l,_=>by
  have ih:=mostOf_is (l:=b::l) (by simp)
  rw[mostOf_cons]
  split
  ·rename_i h
   refine ⟨by simp only[List.mem_cons]; exact .inr (by simpa using ih.1),fun c hc=>?_⟩
   rcases List.mem_cons.1 hc with rfl | hc
   ·grind
   ·exact ih.2 c hc
  ·rename_i h
   refine ⟨by simp,fun c hc=>?_⟩
   rcases List.mem_cons.1 hc with rfl | hc
   ·exact Rat.le_refl
   ·have:=ih.2 c hc
    grind
theorem leastOf_eq {l:List Rat} {v:Rat} (h:IsLeast l v):leastOf l=v:=by
 have hl:l≠[]:=fun e=>by rw[e] at h; simpa using h.1
 have k:=leastOf_is hl
 have h1:=h.2 _ k.1
 have h2:=k.2 _ h.1
 grind
theorem mostOf_eq {l:List Rat} {v:Rat} (h:IsMost l v):mostOf l=v:=by
 have hl:l≠[]:=fun e=>by rw[e] at h; simpa using h.1
 have k:=mostOf_is hl
 have h1:=h.2 _ k.1
 have h2:=k.2 _ h.1
 grind
theorem sumOf_append : ∀(l m:List Rat),sumOf (l++m)=sumOf l+sumOf m
 | [],m=>by rw[List.nil_append,sumOf,Rat.zero_add]
 | a::l,m=>by rw[List.cons_append,sumOf,sumOf,sumOf_append l m]; grind
theorem sumOf_scale (k:Rat):∀l:List Rat,sumOf (l.map (k * ·))=k*sumOf l
 | []=>by simp[sumOf,Rat.mul_zero]
 | a::l=>by rw[List.map_cons,sumOf,sumOf,sumOf_scale k l]; grind
def comb : Tag→List Rat→Rat
 | .add,l=>sumOf l
 | .min,l=>leastOf l
 | .max,l=>mostOf l
theorem comb_one (t:Tag) (a:Rat):comb t [a]=a:=by
 cases t<;>simp[comb,sumOf,leastOf,mostOf,Rat.add_zero]
theorem eval_mkOp (x:List Rat) (t:Tag) (l:List GEx):eval x (mkOp t l)=comb t (evals x l):=by
 cases t<;>rw[mkOp,eval,comb]
theorem eval_joined (x:List Rat) (t:Tag):∀l:List GEx,eval x (joined t l)=comb t (evals x l)
 | []=>by rw[joined]; exact eval_mkOp x t []; simp
 | [a]=>by rw[joined,evals,evals,comb_one]
 | a::b::l=>by rw[joined]; exact eval_mkOp x t _; simp
theorem eval_args (x:List Rat) (t:Tag) (y:GEx):comb t (evals x (argsOf t y))=eval x y:=by
 cases t<;>cases y<;>simp[argsOf,comb,evals,eval,sumOf,leastOf,mostOf,Rat.add_zero]
theorem mem_parts {g:GEx→Option GEx} {t:Tag}:∀{l ps:List GEx},partsW g t l=some ps→∀p,p∈ps↔∃a,a∈l∧∃y,g a=some y∧p∈argsOf t y
 | [],ps,e,p=>by
  have:ps = []:=by simpa[partsW] using e.symm
  simp[this]
 | a::l,ps,e,p=>by
  rw[partsW] at e
  obtain ⟨y,h1,h2⟩:=Option.bind_eq_some_iff.1 e
  obtain ⟨qs,h3,rfl⟩:=Option.map_eq_some_iff.1 h2
  rw[List.mem_append,mem_parts h3 p]
  constructor
  ·rintro (h | ⟨b,hb,z,hz,hp⟩)
   ·exact ⟨a,by simp,y,h1,h⟩
   ·exact ⟨b,by simp[hb],z,hz,hp⟩
  ·rintro ⟨b,hb,z,hz,hp⟩
   rcases List.mem_cons.1 hb with rfl | hb
   ·rw[h1] at hz
    cases hz
    exact .inl hp
   ·exact .inr ⟨b,hb,z,hz,hp⟩
theorem parts_defined {g:GEx→Option GEx} {t:Tag}:∀{l ps:List GEx},partsW g t l=some ps→∀a,a∈l→∃y,g a=some y
 | [],_,_,a,ha=>by simp at ha
 | b::l,ps,e,a,ha=>by
  rw[partsW] at e
  obtain ⟨y,h1,h2⟩:=Option.bind_eq_some_iff.1 e
  obtain ⟨qs,h3,rfl⟩:=Option.map_eq_some_iff.1 h2
  rcases List.mem_cons.1 ha with rfl | ha
  ·exact ⟨y,h1⟩
  ·exact parts_defined h3 a ha
theorem parts_sum {g:GEx→Option GEx} {x:List Rat}:∀{l ps:List GEx},partsW g .add l=some ps→(∀a,a∈l→∀y,g a=some y→eval x y=eval x a)→sumOf (evals x ps)=sumOf (evals x l)
 | [],ps,e,_=>by
  have:ps = []:=by simpa[partsW] using e.symm
  rw[this]
 | a::l,ps,e,h=>by
  rw[partsW] at e
  obtain ⟨y,h1,h2⟩:=Option.bind_eq_some_iff.1 e
  obtain ⟨qs,h3,rfl⟩:=Option.map_eq_some_iff.1 h2
  have ih:=parts_sum h3 fun b hb=>h b (by simp[hb])
  have h4:=eval_args x .add y
  rw[comb] at h4
  rw[evals_map,List.map_append,sumOf_append,←evals_map,←evals_map,h4,ih,evals,sumOf,h a (by simp) y h1]
theorem parts_val {g:GEx→Option GEx} {x:List Rat} {t:Tag} {l ps:List GEx} (e:partsW g t l=some ps) (hl:l≠[]) (h:∀a,a∈l→∀y,g a=some y→eval x y=eval x a∧argsOf t y≠[]):comb t (evals x ps)=comb t (evals x l):=by
 have hne:evals x l≠[]:=by rw[evals_map]; simpa using hl
 have hargs:∀y,argsOf t y≠[]→evals x (argsOf t y)≠[]:=fun y hy=>by rw[evals_map]; simpa using hy
 cases t with
 | add=>exact parts_sum e fun a ha y hy=>(h a ha y hy).1
 | min=>
  refine leastOf_eq ?_
  have hk:=leastOf_is hne
  rw[comb]
  generalize leastOf (evals x l)=v at hk⊢
  rw[evals_map] at hk⊢
  constructor
  ·obtain ⟨a,ha,rfl⟩:=List.mem_map.1 hk.1
   obtain ⟨y,hy⟩:=parts_defined e a ha
   have h1:=h a ha y hy
   have h2:=eval_args x .min y
   have h3:=(leastOf_is (hargs y h1.2)).1
   rw[comb] at h2
   rw[h2,h1.1,evals_map] at h3
   obtain ⟨p,hp,ep⟩:=List.mem_map.1 h3
   exact List.mem_map.2 ⟨p,(mem_parts e p).2 ⟨a,ha,y,hy,hp⟩,ep⟩
  ·intro c hc
   obtain ⟨p,hp,rfl⟩:=List.mem_map.1 hc
   obtain ⟨a,ha,y,hy,hpy⟩:=(mem_parts e p).1 hp
   have h1:=h a ha y hy
   have h2:=eval_args x .min y
   have h3:=(leastOf_is (hargs y h1.2)).2 (eval x p) (by rw[evals_map]; exact List.mem_map.2 ⟨p,hpy,rfl⟩)
   rw[comb] at h2
   rw[h2,h1.1] at h3
   have h4:=hk.2 (eval x a) (List.mem_map.2 ⟨a,ha,rfl⟩)
   grind
 | max=>
  refine mostOf_eq ?_
  have hk:=mostOf_is hne
  rw[comb]
  generalize mostOf (evals x l)=v at hk⊢
  rw[evals_map] at hk⊢
  constructor
  ·obtain ⟨a,ha,rfl⟩:=List.mem_map.1 hk.1
   obtain ⟨y,hy⟩:=parts_defined e a ha
   have h1:=h a ha y hy
   have h2:=eval_args x .max y
   have h3:=(mostOf_is (hargs y h1.2)).1
   rw[comb] at h2
   rw[h2,h1.1,evals_map] at h3
   obtain ⟨p,hp,ep⟩:=List.mem_map.1 h3
   exact List.mem_map.2 ⟨p,(mem_parts e p).2 ⟨a,ha,y,hy,hp⟩,ep⟩
  ·intro c hc
   obtain ⟨p,hp,rfl⟩:=List.mem_map.1 hc
   obtain ⟨a,ha,y,hy,hpy⟩:=(mem_parts e p).1 hp
   have h1:=h a ha y hy
   have h2:=eval_args x .max y
   have h3:=(mostOf_is (hargs y h1.2)).2 (eval x p) (by rw[evals_map]; exact List.mem_map.2 ⟨p,hpy,rfl⟩)
   rw[comb] at h2
   rw[h2,h1.1] at h3
   have h4:=hk.2 (eval x a) (List.mem_map.2 ⟨a,ha,rfl⟩)
   grind
theorem mem_dedupe : ∀{l out:List GEx} {p:GEx},p∈dedupe l out↔p∈l∨p∈out
 | [],out,p=>by simp[dedupe]
 | y::l,out,p=>by
  rw[dedupe]
  split
  ·rename_i h
   rw[mem_dedupe]
   obtain ⟨z,hz,he⟩:=List.any_eq_true.1 h
   have:y=z:=same_iff.1 he
   subst this
   constructor
   ·rintro (h1 | h1)
    ·exact .inl (by simp[h1])
    ·exact .inr h1
   ·rintro (h1 | h1)
    ·rcases List.mem_cons.1 h1 with rfl | h1
     ·exact .inr hz
     ·exact .inl h1
    ·exact .inr h1
  ·rw[mem_dedupe]
   simp only[List.mem_append,List.mem_cons,List.not_mem_nil,or_false]
   constructor
   ·rintro (h1 | h1 | h1)
    ·exact .inl (.inr h1)
    ·exact .inr h1
    ·exact .inl (.inl h1)
   ·rintro ((h1 | h1) | h1)
    ·exact .inr (.inr h1)
    ·exact .inl h1
    ·exact .inr (.inl h1)
theorem choice_val {x:List Rat} {t:Tag} (ht:t≠.add) {ps:List GEx} (hp:ps≠[]):eval x (choiceNF t ps)=comb t (evals x ps):=by
 unfold choiceNF
 rw[eval_joined]
 have hm:∀v,v∈evals x (dedupe ps [])↔v∈evals x ps:=fun v=>by
  rw[evals_map,evals_map,List.mem_map,List.mem_map]
  constructor
  ·rintro ⟨a,ha,e⟩
   exact ⟨a,(mem_dedupe.1 ha).elim id fun h=>by simp at h,e⟩
  ·rintro ⟨a,ha,e⟩
   exact ⟨a,mem_dedupe.2 (.inl ha),e⟩
 have hne:evals x ps≠[]:=by rw[evals_map]; simpa using hp
 cases t with
 | add=>exact absurd rfl ht
 | min=>
  have hk:=leastOf_is hne
  exact leastOf_eq ⟨(hm _).2 hk.1,fun a ha=>hk.2 a ((hm a).1 ha)⟩
 | max=>
  have hk:=mostOf_is hne
  exact mostOf_eq ⟨(hm _).2 hk.1,fun a ha=>hk.2 a ((hm a).1 ha)⟩
theorem over_form {n:Nat} {f:LF}:Over n (.form f)↔f.t.length=n:=by rw[Over]
theorem over_scale {n:Nat} {k:Rat} {a:GEx}:Over n (.scale k a)↔Over n a:=by rw[Over]
theorem over_abs {n:Nat} {a:GEx}:Over n (.abs a)↔Over n a:=by rw[Over]
theorem over_op {n:Nat} {t:Tag} {l:List GEx}:Over n (mkOp t l)↔l≠[]∧∀a,a∈l→Over n a:=by
 cases t<;>rw[mkOp,Over,Overs_iff]
theorem args_ne {n:Nat} {t:Tag} {y:GEx} (h:Over n y):argsOf t y≠[]:=by
 cases t<;>cases y<;>first
  | (exact List.cons_ne_nil _ _)
  | (rw[Over] at h; exact h.1)
theorem over_args {n:Nat} {t:Tag} {y:GEx} (h:Over n y):∀a,a∈argsOf t y→Over n a:=by
 cases t<;>cases y<;>intro a ha<;>first
  | (rw[List.mem_singleton.1 ha]; exact h)
  | (rw[Over] at h; exact Overs_iff.1 h.2 a ha)
theorem over_joined {n:Nat} {t:Tag}:∀{l:List GEx},l≠[]→(∀a,a∈l→Over n a)→Over n (joined t l)
 | [],h,_=>absurd rfl h
 | [a],_,h=>h a (by simp)
 | _::_::_,h,k=>over_op.2 ⟨h,k⟩
theorem addPart_other {o:LF} {a:GEx} (h:isForm a=false):addPart o a=o:=by
 cases a with
 | form g=>cases h
 | _=>rfl
theorem forms_val {n:Nat} (x:List Rat):∀{l:List GEx} {o:LF},o.t.length=n→(∀a,a∈l→Over n a)→(l.foldl addPart o).t.length=n∧(l.foldl addPart o).val x+sumOf (evals x (l.filter fun y=>!isForm y))=o.val x+sumOf (evals x l)
 | [],o,h,_=>⟨h,rfl⟩
 | a::l,o,h,k=>by
  rw[List.foldl_cons]
  have kl:∀b,b∈l→Over n b:=fun b hb=>k b (by simp[hb])
  cases hf:isForm a with
  | true=>
   cases a with
   | form g=>
    have hg:g.t.length=n:=over_form.1 (k (.form g) (by simp))
    have ih:=forms_val x (l:=l) (o:=o.add g) (add_len h hg) kl
    refine ⟨ih.1,?_⟩
    have hr:(GEx.form g::l).filter (fun y=>!isForm y)=l.filter fun y=>!isForm y:=by rw[List.filter_cons,hf]; simp
    have h2:=ih.2
    rw[val_add (by rw[h,hg])] at h2
    rw[hr,evals,sumOf,eval]
    show (l.foldl addPart (o.add g)).val x+_=_
    rw[h2]
    grind
   | _=>cases hf
  | false=>
   have ih:=forms_val x (l:=l) (o:=o) h kl
   rw[addPart_other hf]
   refine ⟨ih.1,?_⟩
   have hr:(a::l).filter (fun y=>!isForm y)=a::l.filter fun y=>!isForm y:=by rw[List.filter_cons,hf]; simp
   rw[hr,evals,sumOf,evals,sumOf]
   have h2:=ih.2
   grind
theorem sumNF_val {n:Nat} (x:List Rat) {ps:List GEx} (h:∀a,a∈ps→Over n a):Over n (sumNF n ps)∧eval x (sumNF n ps)=sumOf (evals x ps):=by
 have hv:=forms_val x (l:=ps) (o:=LF.zero n) (zero_len n) h
 unfold sumNF forms
 have hR:∀a,a∈(ps.filter fun y=>!isForm y)→Over n a:=fun a ha=>h a (List.mem_filter.1 ha).1
 generalize ps.foldl addPart (LF.zero n)=F at hv⊢
 generalize (ps.filter fun y=>!isForm y)=R at hv hR⊢
 rw[val_zero,Rat.zero_add] at hv
 split
 ·refine ⟨over_joined (by simp) ?_,?_⟩
  ·intro a ha
   rcases List.mem_cons.1 ha with rfl | ha
   ·exact over_form.2 hv.1
   ·exact hR a ha
  ·rw[eval_joined,comb,evals,sumOf,eval]
   exact hv.2
 ·rename_i hn
  have h1:F=LF.zero n:=Classical.byContradiction fun e=>hn (.inl e)
  have h2:R≠[]:=fun e=>hn (.inr e)
  refine ⟨over_joined h2 hR,?_⟩
  rw[eval_joined,comb,←hv.2,h1,val_zero,Rat.zero_add]
theorem choice_over {n:Nat} {t:Tag} {ps:List GEx} (hp:ps≠[]) (h:∀a,a∈ps→Over n a):Over n (choiceNF t ps):=by
 unfold choiceNF
 refine over_joined ?_ fun a ha=>(mem_dedupe.1 ha).elim (h a) fun h=>by simp at h
 obtain ⟨p,hp⟩:=List.exists_mem_of_ne_nil _ hp
 exact List.ne_nil_of_mem (mem_dedupe.2 (.inl hp))
theorem mul_le_pos {k a b:Rat} (hk:0≤k) (h:a≤b):k*a≤k*b:=by
 have:=Rat.mul_nonneg hk (show 0≤b-a by grind)
 grind
theorem mul_le_neg {k a b:Rat} (hk:k<0) (h:a≤b):k*b≤k*a:=by
 have:=Rat.mul_nonneg (show 0≤-k by grind) (show 0≤b-a by grind)
 grind
theorem flip_cases (k:Rat):(k<0∧flip k .min=.max∧flip k .max=.min)∨(0≤k∧flip k .min=.min∧flip k .max=.max):=by
 by_cases h:k<0
 ·exact .inl ⟨h,if_pos h,if_pos h⟩
 ·exact .inr ⟨Rat.not_lt.1 h,if_neg h,if_neg h⟩
theorem comb_scale (k:Rat) (t:Tag) {l:List Rat} (hl:l≠[]):comb (flip k t) (l.map (k * ·))=k*comb t l:=by
 cases t with
 | add=>exact sumOf_scale k l
 | min=>
  have hk:=leastOf_is hl
  rcases flip_cases k with ⟨h,e,_⟩ | ⟨h,e,_⟩
  ·rw[e]
   refine mostOf_eq (v:=k*leastOf l) ⟨List.mem_map.2 ⟨_,hk.1,rfl⟩,fun c hc=>?_⟩
   obtain ⟨a,ha,rfl⟩:=List.mem_map.1 hc
   exact mul_le_neg h (hk.2 a ha)
  ·rw[e]
   refine leastOf_eq (v:=k*leastOf l) ⟨List.mem_map.2 ⟨_,hk.1,rfl⟩,fun c hc=>?_⟩
   obtain ⟨a,ha,rfl⟩:=List.mem_map.1 hc
   exact mul_le_pos h (hk.2 a ha)
 | max=>
  have hk:=mostOf_is hl
  rcases flip_cases k with ⟨h,_,e⟩ | ⟨h,_,e⟩
  ·rw[e]
   refine leastOf_eq (v:=k*mostOf l) ⟨List.mem_map.2 ⟨_,hk.1,rfl⟩,fun c hc=>?_⟩
   obtain ⟨a,ha,rfl⟩:=List.mem_map.1 hc
   exact mul_le_neg h (hk.2 a ha)
  ·rw[e]
   refine mostOf_eq (v:=k*mostOf l) ⟨List.mem_map.2 ⟨_,hk.1,rfl⟩,fun c hc=>?_⟩
   obtain ⟨a,ha,rfl⟩:=List.mem_map.1 hc
   exact mul_le_pos h (hk.2 a ha)
theorem parts_ne {g:GEx→Option GEx} {n:Nat} {t:Tag} {l ps:List GEx} (e:partsW g t l=some ps) (hl:l≠[]) (h:∀a,a∈l→∀y,g a=some y→Over n y):ps≠[]∧∀p,p∈ps→Over n p:=by
 constructor
 ·obtain ⟨a,ha⟩:=List.exists_mem_of_ne_nil _ hl
  obtain ⟨y,hy⟩:=parts_defined e a ha
  obtain ⟨p,hp⟩:=List.exists_mem_of_ne_nil _ (args_ne (t:=t) (h a ha y hy))
  exact List.ne_nil_of_mem ((mem_parts e p).2 ⟨a,ha,y,hy,hp⟩)
 ·intro p hp
  obtain ⟨a,ha,y,hy,hpy⟩:=(mem_parts e p).1 hp
  exact over_args (h a ha y hy) p hpy
theorem evals_scale (x:List Rat) (k:Rat) (l:List GEx):evals x (l.map (.scale k))=(evals x l).map (k * ·):=by
 rw[evals_map,evals_map,List.map_map,List.map_map]
 refine List.map_congr_left fun a _=>?_
 show eval x (.scale k a)=k*eval x a
 rw[eval]
def Keeps (n:Nat) (x:List Rat) (g:GEx→Option GEx):Prop:=∀a y,Over n a→g a=some y→Over n y∧eval x y=eval x a
theorem op_val {n:Nat} {x:List Rat} {g:GEx→Option GEx} (hg:Keeps n x g) {t:Tag} {l ps:List GEx} (hl:l≠[]∧∀a,a∈l→Over n a) (e:partsW g t l=some ps):ps≠[]∧(∀p,p∈ps→Over n p)∧comb t (evals x ps)=comb t (evals x l):=by
 have h1:=parts_ne e hl.1 fun a ha y hy=>(hg a y (hl.2 a ha) hy).1
 exact ⟨h1.1,h1.2,parts_val e hl.1 fun a ha y hy=>⟨(hg a y (hl.2 a ha) hy).2,args_ne (hg a y (hl.2 a ha) hy).1⟩⟩
theorem over_scales {n:Nat} {k:Rat} {l:List GEx} (hl:l≠[]∧∀a,a∈l→Over n a):l.map (GEx.scale k)≠[]∧∀a,a∈l.map (GEx.scale k)→Over n a:=by
 refine ⟨by simpa using hl.1,fun a ha=>?_⟩
 obtain ⟨b,hb,rfl⟩:=List.mem_map.1 ha
 exact over_scale.2 (hl.2 b hb)
theorem flip_choice (k:Rat) {t:Tag} (h:t≠.add):flip k t≠.add:=by
 cases t with
 | add=>exact absurd rfl h
 | min=>rcases flip_cases k with ⟨_,e,_⟩ | ⟨_,e,_⟩<;>rw[e]<;>intro e<;>cases e
 | max=>rcases flip_cases k with ⟨_,_,e⟩ | ⟨_,_,e⟩<;>rw[e]<;>intro e<;>cases e
theorem evals_ne {x:List Rat} {l:List GEx} (h:l≠[]):evals x l≠[]:=by rw[evals_map]; simpa using h
theorem times_choice {n:Nat} {x:List Rat} {g:GEx→Option GEx} (hg:Keeps n x g) {k:Rat} {t:Tag} (ht:t≠.add) {l:List GEx} {z:GEx} (hl:l≠[]∧∀a,a∈l→Over n a) (e:(partsW g (flip k t) (l.map (.scale k))).map (choiceNF (flip k t))=some z):Over n z∧eval x z=k*comb t (evals x l):=by
 obtain ⟨ps,h1,rfl⟩:=Option.map_eq_some_iff.1 e
 have h2:=op_val hg (over_scales hl) h1
 refine ⟨choice_over h2.1 h2.2.1,?_⟩
 rw[choice_val (flip_choice k ht) h2.1,h2.2.2,evals_scale,comb_scale k t (evals_ne hl.1)]
theorem timesW_val {n:Nat} {x:List Rat} {g:GEx→Option GEx} (hg:Keeps n x g) {k:Rat} {y z:GEx} (hy:Over n y) (e:timesW g n k y=some z):Over n z∧eval x z=k*eval x y:=by
 cases y with
 | form f=>
  rw[timesW] at e
  cases e
  exact ⟨over_form.2 (scale_len (over_form.1 hy)),by rw[eval,eval,val_scale,Rat.mul_comm]⟩
 | add l=>
  rw[timesW] at e
  obtain ⟨ps,h1,rfl⟩:=Option.map_eq_some_iff.1 e
  have hl:=over_op (t:=.add).1 hy
  have h2:=op_val hg (over_scales hl) h1
  have h3:=sumNF_val x h2.2.1
  refine ⟨h3.1,?_⟩
  have h4:=h2.2.2
  rw[comb,comb,evals_scale,sumOf_scale] at h4
  rw[h3.2,h4,eval]
 | min l=>
  rw[timesW] at e
  have h:=times_choice hg (t:=.min) (fun e=>by cases e) (over_op (t:=.min).1 hy) e
  exact ⟨h.1,by rw[h.2,eval,comb]⟩
 | max l=>
  rw[timesW] at e
  have h:=times_choice hg (t:=.max) (fun e=>by cases e) (over_op (t:=.max).1 hy) e
  exact ⟨h.1,by rw[h.2,eval,comb]⟩
 | scale l y=>
  rw[timesW] at e
  cases e
  split
  ·rename_i hk
   refine ⟨over_scale.1 hy,?_⟩
   rw[eval,←Rat.mul_assoc,hk,Rat.one_mul]
  ·exact ⟨over_scale.2 (over_scale.1 hy),by rw[eval,eval,Rat.mul_assoc]⟩
 | abs y=>
  rw[timesW] at e
  cases e
  split
  ·rename_i hk
   exact ⟨hy,by rw[hk,Rat.one_mul]⟩
  ·exact ⟨over_scale.2 hy,by rw[eval]⟩
theorem lead_zero : ∀{t:List Rat},lead t=0→∀x,dot t x=0
 | [],_,x=>by simp[dot]
 | a::t,h,x=>by
  rw[lead] at h
  by_cases ha:a=0
  ·rw[if_pos ha] at h
   cases x with
   | nil=>simp[dot]
   | cons y x=>rw[dot,lead_zero h x,ha,Rat.zero_mul,Rat.add_zero]
  ·rw[if_neg ha] at h
   exact absurd h ha
theorem eval_abs (x:List Rat) (y:GEx):eval x (.abs y)=if eval x y<0 then -eval x y else eval x y:=by rw[eval]
theorem magn_val {n:Nat} (x:List Rat) {y:GEx} (hy:Over n y):Over n (magn y)∧eval x (magn y)=if eval x y<0 then -eval x y else eval x y:=by
 cases y with
 | form f=>
  have hf:=over_form.1 hy
  rw[magn]
  split
  ·rename_i h
   refine ⟨over_form.2 hf,?_⟩
   rw[eval,eval]
   unfold LF.val
   rw[lead_zero h x]
   simp only[Rat.add_zero]
  ·split
   ·refine ⟨over_abs.2 (over_form.2 (scale_len hf)),?_⟩
    rw[eval,eval,eval,val_scale]
    split<;>split<;>grind
   ·exact ⟨over_abs.2 (over_form.2 hf),eval_abs x _⟩
 | _=>exact ⟨over_abs.2 hy,eval_abs x _⟩
theorem normF_val {n:Nat} (x:List Rat):∀{f:Nat},Keeps n x (normF n f)
 | 0,a,y,_,e=>absurd ((normF_none n a).symm.trans e) (by simp)
 | f+1,a,y,ho,e=>by
  have ih:=normF_val (n:=n) x (f:=f)
  rw[normF_succ] at e
  cases hl:linOf n a with
  | some g=>
   rw[step_some hl] at e
   cases e
   have h:=linOf_val x ho hl
   exact ⟨over_form.2 h.1,by rw[eval]; exact h.2⟩
  | none=>
   rw[step_none hl] at e
   cases a with
   | form g=>cases e; exact ⟨ho,rfl⟩
   | add l=>
    obtain ⟨ps,h1,rfl⟩:=Option.map_eq_some_iff.1 e
    have h2:=op_val ih (over_op (t:=.add).1 ho) h1
    have h3:=sumNF_val x h2.2.1
    exact ⟨h3.1,by rw[h3.2,eval]; exact h2.2.2⟩
   | min l=>
    obtain ⟨ps,h1,rfl⟩:=Option.map_eq_some_iff.1 e
    have h2:=op_val ih (over_op (t:=.min).1 ho) h1
    exact ⟨choice_over h2.1 h2.2.1,by rw[choice_val (fun e=>by cases e) h2.1,eval]; exact h2.2.2⟩
   | max l=>
    obtain ⟨ps,h1,rfl⟩:=Option.map_eq_some_iff.1 e
    have h2:=op_val ih (over_op (t:=.max).1 ho) h1
    exact ⟨choice_over h2.1 h2.2.1,by rw[choice_val (fun e=>by cases e) h2.1,eval]; exact h2.2.2⟩
   | scale k a=>
    obtain ⟨b,h1,h2⟩:=Option.bind_eq_some_iff.1 e
    have h3:=ih a b (over_scale.1 ho) h1
    have h4:=timesW_val ih h3.1 h2
    exact ⟨h4.1,by rw[h4.2,h3.2,eval]⟩
   | abs a=>
    obtain ⟨b,h1,rfl⟩:=Option.map_eq_some_iff.1 e
    have h3:=ih a b (over_abs.1 ho) h1
    have h4:=magn_val x h3.1
    exact ⟨h4.1,by rw[h4.2,h3.2,eval]⟩
def isOp : Tag→GEx→Bool
 | .add,.add _=>true
 | .min,.min _=>true
 | .max,.max _=>true
 | _,_=>false
def isAbs : GEx→Bool
 | .abs _=>true
 | _=>false
def formsFirst (n:Nat):List GEx→Prop
 | []=>True
 | a::l=>a≠.form (LF.zero n)∧∀b,b∈l→isForm b=false
def opOk (n:Nat):Tag→List GEx→Prop
 | .add,l=>formsFirst n l
 | _,l=>l.Nodup
def headOk : GEx→Prop
 | .form f=>0<lead f.t
 | _=>True
mutual
def NF (n:Nat):GEx→Prop
 | .form f=>f.t.length=n
 | .scale k a=>k≠0∧k≠1∧isAbs a=true∧NF n a
 | .abs a=>headOk a∧NF n a
 | .add l=>2≤l.length∧NFs n l∧(∀a,a∈l→isOp .add a=false)∧opOk n .add l
 | .min l=>2≤l.length∧NFs n l∧(∀a,a∈l→isOp .min a=false)∧opOk n .min l
 | .max l=>2≤l.length∧NFs n l∧(∀a,a∈l→isOp .max a=false)∧opOk n .max l
def NFs (n:Nat):List GEx→Prop
 | []=>True
 | a::l=>NF n a∧NFs n l
end
theorem NFs_iff {n:Nat}:∀{l:List GEx},NFs n l↔∀a,a∈l→NF n a
 | []=>by simp[NFs]
 | a::l=>by rw[NFs,NFs_iff]; simp
theorem nf_form {n:Nat} {f:LF}:NF n (.form f)↔f.t.length=n:=by rw[NF]
theorem nf_scale {n:Nat} {k:Rat} {a:GEx}:NF n (.scale k a)↔k≠0∧k≠1∧isAbs a=true∧NF n a:=by rw[NF]
theorem nf_abs {n:Nat} {a:GEx}:NF n (.abs a)↔headOk a∧NF n a:=by rw[NF]
theorem nf_op {n:Nat} {t:Tag} {l:List GEx}:NF n (mkOp t l)↔2≤l.length∧(∀a,a∈l→NF n a)∧(∀a,a∈l→isOp t a=false)∧opOk n t l:=by
 cases t<;>rw[mkOp,NF,NFs_iff]
theorem args_other {t:Tag} {a:GEx} (h:isOp t a=false):argsOf t a = [a]:=by
 cases t<;>cases a<;>first
  | rfl
  | cases h
theorem args_nf {n:Nat} {t:Tag} {y:GEx} (h:NF n y):∀p,p∈argsOf t y→NF n p∧isOp t p=false:=by
 cases t<;>cases y<;>intro p hp<;>first
  | (rw[List.mem_singleton.1 hp]; exact ⟨h,rfl⟩)
  | (have k:=(nf_op (t:=.add)).1 h; exact ⟨k.2.1 p hp,k.2.2.1 p hp⟩)
  | (have k:=(nf_op (t:=.min)).1 h; exact ⟨k.2.1 p hp,k.2.2.1 p hp⟩)
  | (have k:=(nf_op (t:=.max)).1 h; exact ⟨k.2.1 p hp,k.2.2.1 p hp⟩)
theorem nf_lin {n:Nat}:∀{a:GEx},NF n a→isForm a=false→linOf n a=none
 | .form f,_,h=>by cases h
 | .abs a,_,_=>by rw[linOf]
 | .scale k a,hn,_=>by
  have h:=nf_scale.1 hn
  rw[linOf,if_neg h.1]
  cases a with
  | abs b=>rw[linOf]; rfl
  | _=>cases h.2.2.1
 | .add [],hn,_=>by
  have h:=((nf_op (t:=.add)).1 hn).1
  simp at h
 | .add [a],hn,_=>by
  have h:=((nf_op (t:=.add)).1 hn).1
  simp at h
 | .add (a::b::l),hn,_=>by
  have h:=(nf_op (t:=.add)).1 hn
  have hb:isForm b=false:=h.2.2.2.2 b (by simp)
  have hl:=nf_lin (a:=b) (h.2.1 b (by simp)) hb
  rw[linOf,linsOf,linsOf,hl]
  cases linOf n a<;>simp[addOpt]
 | .min l,hn,_=>by
  have h:=((nf_op (t:=.min)).1 hn).1
  rw[linOf,if_pos (by omega)]
 | .max l,hn,_=>by
  have h:=((nf_op (t:=.max)).1 hn).1
  rw[linOf,if_pos (by omega)]
mutual
def dep : GEx→Nat
 | .form _=>1
 | .scale _ a=>dep a+1
 | .abs a=>dep a+1
 | .add l=>deps l+1
 | .min l=>deps l+1
 | .max l=>deps l+1
def deps : List GEx→Nat
 | []=>0
 | a::l=>Nat.max (dep a) (deps l)
end
theorem deps_iff {m:Nat}:∀{l:List GEx},deps l≤m↔∀a,a∈l→dep a≤m
 | []=>by simp[deps]
 | a::l=>by
  rw[deps]
  have ih:=deps_iff (m:=m) (l:=l)
  have hm:Nat.max (dep a) (deps l)≤m↔dep a≤m∧deps l≤m:=Nat.max_le
  rw[hm,ih]
  simp
theorem dep_op {t:Tag} {l:List GEx}:dep (mkOp t l)=deps l+1:=by cases t<;>rw[mkOp,dep]
theorem dep_pos (a:GEx):1≤dep a:=by cases a<;>rw[dep]<;>omega
theorem parts_same {g:GEx→Option GEx} {t:Tag}:∀{l:List GEx},(∀b,b∈l→g b=some b∧isOp t b=false)→partsW g t l=some l
 | [],_=>rfl
 | a::l,h=>by
  rw[partsW,(h a (by simp)).1,Option.bind_some,parts_same (fun b hb=>h b (by simp[hb])),Option.map_some,args_other (h a (by simp)).2]
  rfl
theorem fold_none : ∀{l:List GEx} {o:LF},(∀b,b∈l→isForm b=false)→l.foldl addPart o=o
 | [],_,_=>rfl
 | a::l,o,h=>by rw[List.foldl_cons,addPart_other (h a (by simp)),fold_none fun b hb=>h b (by simp[hb])]
theorem filter_none {l:List GEx} (h:∀b,b∈l→isForm b=false):(l.filter fun y=>!isForm y)=l:=by
 rw[List.filter_eq_self]
 intro a ha
 rw[h a ha]
 rfl
theorem joined_more {t:Tag}:∀{l:List GEx},2≤l.length→joined t l=mkOp t l
 | [],h=>by simp at h
 | [_],h=>by simp at h
 | _::_::_,_=>rfl
theorem sum_same {n:Nat} {l:List GEx} (h2:2≤l.length) (hf:formsFirst n l) (hn:∀a,a∈l→NF n a):sumNF n l=.add l:=by
 cases l with
 | nil=>simp at h2
 | cons a r=>
  have hr:r≠[]:=fun e=>by rw[e] at h2; simp at h2
  unfold sumNF forms
  rw[List.foldl_cons,List.filter_cons]
  cases ha:isForm a with
  | true=>
   cases a with
   | form F=>
    have hF:F.t.length=n:=nf_form.1 (hn (.form F) (by simp))
    rw[show addPart (LF.zero n) (.form F)=(LF.zero n).add F from rfl,zero_add hF,fold_none hf.2,filter_none hf.2]
    have hz:F≠LF.zero n:=fun e=>hf.1 (by rw[e])
    rw[if_pos (.inl hz)]
    simp only[Bool.not_true,Bool.false_eq_true,if_false]
    exact joined_more h2
   | _=>cases ha
  | false=>
   rw[addPart_other ha,fold_none hf.2,filter_none hf.2]
   simp only[Bool.not_false,if_true]
   rw[if_neg (by rintro (h | h); exact h rfl; cases h)]
   exact joined_more h2
theorem dedupe_same : ∀{l out:List GEx},l.Nodup→(∀y,y∈l→y∉out)→dedupe l out=out++l
 | [],out,_,_=>by rw[dedupe,List.append_nil]
 | y::l,out,h,k=>by
  have hy:=List.nodup_cons.1 h
  have hany:(out.any fun z=>same y z)=false:=by
   rw[List.any_eq_false]
   intro z hz e
   have:y=z:=same_iff.1 e
   exact k y (by simp) (by rw[this]; exact hz)
  rw[dedupe,hany]
  simp only[Bool.false_eq_true,if_false]
  rw[dedupe_same hy.2,List.append_assoc,List.singleton_append]
  intro z hz hm
  rcases List.mem_append.1 hm with hm | hm
  ·exact k z (by simp[hz]) hm
  ·rw[List.mem_singleton.1 hm] at hz
   exact hy.1 hz
theorem choice_same {t:Tag} {l:List GEx} (h2:2≤l.length) (h:l.Nodup):choiceNF t l=mkOp t l:=by
 unfold choiceNF
 rw[dedupe_same h (by simp),List.nil_append]
 exact joined_more h2
theorem magn_same {a:GEx} (h:headOk a):magn a=.abs a:=by
 cases a with
 | form f=>
  have hl:0<lead f.t:=h
  rw[magn,if_neg (by grind),if_neg (by grind)]
 | _=>rfl
theorem nf_same {n:Nat}:∀{f:Nat} {a:GEx},NF n a→dep a≤f→normF n f a=some a
 | 0,a,_,hd=>by have:=dep_pos a; omega
 | f+1,a,hn,hd=>by
  have ih:=fun b=>nf_same (n:=n) (f:=f) (a:=b)
  cases hf:isForm a with
  | true=>
   cases a with
   | form F=>rw[normF_succ]; exact step_some (by rw[linOf])
   | _=>cases hf
  | false=>
   rw[normF_succ,step_none (nf_lin hn hf)]
   have hop:∀(t:Tag) (l:List GEx),NF n (mkOp t l)→deps l≤f→partsW (normF n f) t l=some l:=fun t l hn hd=>by
    have h:=nf_op.1 hn
    exact parts_same fun b hb=>⟨ih b (h.2.1 b hb) (deps_iff.1 hd b hb),h.2.2.1 b hb⟩
   cases a with
   | form F=>cases hf
   | add l=>
    have h:=(nf_op (t:=.add)).1 hn
    have hd2:deps l≤f:=by rw[dep] at hd; omega
    show (partsW (normF n f) .add l).map (sumNF n)=_
    rw[hop .add l hn hd2,Option.map_some,sum_same h.1 h.2.2.2 h.2.1]
   | min l=>
    have h:=(nf_op (t:=.min)).1 hn
    have hd2:deps l≤f:=by rw[dep] at hd; omega
    show (partsW (normF n f) .min l).map (choiceNF .min)=_
    rw[hop .min l hn hd2,Option.map_some,choice_same h.1 h.2.2.2]
    rfl
   | max l=>
    have h:=(nf_op (t:=.max)).1 hn
    have hd2:deps l≤f:=by rw[dep] at hd; omega
    show (partsW (normF n f) .max l).map (choiceNF .max)=_
    rw[hop .max l hn hd2,Option.map_some,choice_same h.1 h.2.2.2]
    rfl
   | scale k b=>
    have h:=nf_scale.1 hn
    have hd2:dep b≤f:=by rw[dep] at hd; omega
    show (normF n f b).bind (timesW (normF n f) n k)=_
    rw[ih b h.2.2.2 hd2,Option.bind_some]
    cases b with
    | abs c=>rw[timesW,if_neg h.2.1]
    | _=>cases h.2.2.1
   | abs b=>
    have h:=nf_abs.1 hn
    have hd2:dep b≤f:=by rw[dep] at hd; omega
    show (normF n f b).map magn=_
    rw[ih b h.2 hd2,Option.map_some,magn_same h.1]
def Forms (n:Nat) (g:GEx→Option GEx):Prop:=∀a y,Over n a→g a=some y→NF n y
theorem parts_nf {n:Nat} {g:GEx→Option GEx} (hg:Forms n g) {t:Tag} {l ps:List GEx} (hl:∀a,a∈l→Over n a) (e:partsW g t l=some ps):∀p,p∈ps→NF n p∧isOp t p=false:=fun p hp=>by
 obtain ⟨a,ha,y,hy,hpy⟩:=(mem_parts e p).1 hp
 exact args_nf (hg a y (hl a ha) hy) p hpy
theorem sumNF_nf {n:Nat} {ps:List GEx} (ho:∀p,p∈ps→Over n p) (h:∀p,p∈ps→NF n p∧isOp .add p=false):NF n (sumNF n ps):=by
 have hv:=forms_val [] (l:=ps) (o:=LF.zero n) (zero_len n) ho
 unfold sumNF forms
 have hR:∀a,a∈(ps.filter fun y=>!isForm y)→(NF n a∧isOp .add a=false)∧isForm a=false:=fun a ha=>by
  have k:=List.mem_filter.1 ha
  exact ⟨h a k.1,by simpa using k.2⟩
 generalize ps.foldl addPart (LF.zero n)=F at hv⊢
 generalize (ps.filter fun y=>!isForm y)=R at hR⊢
 split
 ·rename_i hF
  cases R with
  | nil=>exact nf_form.2 hv.1
  | cons r R=>
   have hz:F≠LF.zero n:=hF.elim id fun e=>by cases e
   refine (nf_op (t:=.add)).2 ⟨by simp,fun a ha=>?_,fun a ha=>?_,fun e=>hz (by cases e; rfl),fun b hb=>(hR b hb).2⟩
   ·rcases List.mem_cons.1 ha with rfl | ha
    ·exact nf_form.2 hv.1
    ·exact (hR a ha).1.1
   ·rcases List.mem_cons.1 ha with rfl | ha
    ·rfl
    ·exact (hR a ha).1.2
 ·rename_i hn
  match R,hR,hn with
  | [],_,hn=>exact absurd (.inr rfl) hn
  | [r],hR,_=>exact (hR r (by simp)).1.1
  | r::s::R,hR,_=>
   refine (nf_op (t:=.add)).2 ⟨by simp,fun a ha=>(hR a ha).1.1,fun a ha=>(hR a ha).1.2,fun e=>?_,fun b hb=>(hR b (List.mem_cons_of_mem _ hb)).2⟩
   have:=(hR r (by simp)).2
   rw[e] at this
   cases this
theorem dedupe_nodup : ∀{l out:List GEx},out.Nodup→(dedupe l out).Nodup
 | [],out,h=>by rw[dedupe]; exact h
 | y::l,out,h=>by
  rw[dedupe]
  split
  ·exact dedupe_nodup h
  ·rename_i hn
   refine dedupe_nodup (List.nodup_append.2 ⟨h,by simp,fun a ha b hb e=>hn ?_⟩)
   rw[List.mem_singleton.1 hb] at e
   exact List.any_eq_true.2 ⟨a,ha,same_iff.2 e.symm⟩
theorem choice_nf {n:Nat} {t:Tag} (ht:t≠.add) {ps:List GEx} (hp:ps≠[]) (h:∀p,p∈ps→NF n p∧isOp t p=false):NF n (choiceNF t ps):=by
 unfold choiceNF
 have hd:=dedupe_nodup (l:=ps) (out:=[]) List.nodup_nil
 have hm:∀p,p∈dedupe ps []→NF n p∧isOp t p=false:=fun p hp=>h p ((mem_dedupe.1 hp).elim id fun e=>by simp at e)
 have hne:dedupe ps []≠[]:=by
  obtain ⟨p,hp⟩:=List.exists_mem_of_ne_nil _ hp
  exact List.ne_nil_of_mem (mem_dedupe.2 (.inl hp))
 generalize dedupe ps []=R at hd hm hne
 match R,hd,hm,hne with
 | [],_,_,hne=>exact absurd rfl hne
 | [r],_,hm,_=>exact (hm r (by simp)).1
 | r::s::R,hd,hm,_=>
  refine nf_op.2 ⟨by simp,fun a ha=>(hm a ha).1,fun a ha=>(hm a ha).2,?_⟩
  cases t with
  | add=>exact absurd rfl ht
  | min=>exact hd
  | max=>exact hd
theorem lead_neg : ∀t:List Rat,lead (t.map (· * -1)) = -lead t
 | []=>by simp[lead]
 | a::t=>by
  rw[List.map_cons,lead,lead]
  by_cases ha:a=0
  ·rw[if_pos ha,if_pos (by grind),lead_neg t]
  ·rw[if_neg ha,if_neg (by grind)]
   grind
theorem magn_nf {n:Nat} {y:GEx} (h:NF n y):NF n (magn y):=by
 cases y with
 | form f=>
  have hf:=nf_form.1 h
  rw[magn]
  split
  ·exact nf_form.2 hf
  ·rename_i h0
   split
   ·rename_i h1
    refine nf_abs.2 ⟨?_,nf_form.2 (scale_len hf)⟩
    show 0<lead (f.t.map (· * -1))
    rw[lead_neg]
    grind
   ·rename_i h1
    refine nf_abs.2 ⟨?_,nf_form.2 hf⟩
    show 0<lead f.t
    grind
 | _=>exact nf_abs.2 ⟨trivial,h⟩
theorem timesW_nf {n:Nat} {g:GEx→Option GEx} (hg:Forms n g) (hk:Keeps n [] g) {k:Rat} (hk0:k≠0) {y z:GEx} (ho:Over n y) (hy:NF n y) (e:timesW g n k y=some z):NF n z:=by
 cases y with
 | form f=>cases e; exact nf_form.2 (scale_len (nf_form.1 hy))
 | add l=>
  rw[timesW] at e
  obtain ⟨ps,h1,rfl⟩:=Option.map_eq_some_iff.1 e
  have hl:=over_scales (k:=k) ((over_op (t:=.add)).1 ho)
  exact sumNF_nf (op_val hk hl h1).2.1 (parts_nf hg hl.2 h1)
 | min l=>
  rw[timesW] at e
  obtain ⟨ps,h1,rfl⟩:=Option.map_eq_some_iff.1 e
  have hl:=over_scales (k:=k) ((over_op (t:=.min)).1 ho)
  exact choice_nf (flip_choice k fun e=>by cases e) (op_val hk hl h1).1 (parts_nf hg hl.2 h1)
 | max l=>
  rw[timesW] at e
  obtain ⟨ps,h1,rfl⟩:=Option.map_eq_some_iff.1 e
  have hl:=over_scales (k:=k) ((over_op (t:=.max)).1 ho)
  exact choice_nf (flip_choice k fun e=>by cases e) (op_val hk hl h1).1 (parts_nf hg hl.2 h1)
 | scale l y=>
  have h:=nf_scale.1 hy
  rw[timesW] at e
  cases e
  split
  ·exact h.2.2.2
  ·rename_i h1
   refine nf_scale.2 ⟨fun e=>?_,h1,h.2.2⟩
   rcases Rat.mul_eq_zero.1 e with e | e
   ·exact hk0 e
   ·exact h.1 e
 | abs y=>
  rw[timesW] at e
  cases e
  split
  ·exact hy
  ·rename_i h1
   exact nf_scale.2 ⟨hk0,h1,rfl,hy⟩
theorem scale_ne {n:Nat} {k:Rat} {a:GEx} (h:linOf n (.scale k a)=none):k≠0:=fun e=>by
 rw[linOf,if_pos e] at h
 cases h
theorem normF_nf {n:Nat}:∀{f:Nat},Forms n (normF n f)
 | 0,a,y,_,e=>absurd ((normF_none n a).symm.trans e) (by simp)
 | f+1,a,y,ho,e=>by
  have ih:=normF_nf (n:=n) (f:=f)
  have iv:=normF_val (n:=n) [] (f:=f)
  rw[normF_succ] at e
  cases hl:linOf n a with
  | some g=>
   rw[step_some hl] at e
   cases e
   exact nf_form.2 (linOf_val [] ho hl).1
  | none=>
   rw[step_none hl] at e
   cases a with
   | form g=>rw[linOf] at hl; cases hl
   | add l=>
    obtain ⟨ps,h1,rfl⟩:=Option.map_eq_some_iff.1 e
    have hl:=(over_op (t:=.add)).1 ho
    exact sumNF_nf (op_val iv hl h1).2.1 (parts_nf ih hl.2 h1)
   | min l=>
    obtain ⟨ps,h1,rfl⟩:=Option.map_eq_some_iff.1 e
    have hl:=(over_op (t:=.min)).1 ho
    exact choice_nf (fun e=>by cases e) (op_val iv hl h1).1 (parts_nf ih hl.2 h1)
   | max l=>
    obtain ⟨ps,h1,rfl⟩:=Option.map_eq_some_iff.1 e
    have hl:=(over_op (t:=.max)).1 ho
    exact choice_nf (fun e=>by cases e) (op_val iv hl h1).1 (parts_nf ih hl.2 h1)
   | scale k a=>
    obtain ⟨b,h1,h2⟩:=Option.bind_eq_some_iff.1 e
    exact timesW_nf ih iv (scale_ne hl) (iv a b (over_scale.1 ho) h1).1 (ih a b (over_scale.1 ho) h1) h2
   | abs a=>
    obtain ⟨b,h1,rfl⟩:=Option.map_eq_some_iff.1 e
    exact magn_nf (ih a b (over_abs.1 ho) h1)
theorem parts_some {g:GEx→Option GEx} {t:Tag}:∀{l:List GEx},(∀a,a∈l→∃y,g a=some y)→∃ps,partsW g t l=some ps
 | [],_=>⟨[],rfl⟩
 | a::l,h=>by
  obtain ⟨y,hy⟩:=h a (by simp)
  obtain ⟨ps,hp⟩:=parts_some (g:=g) (t:=t) (l:=l) fun b hb=>h b (by simp[hb])
  exact ⟨argsOf t y++ps,by rw[partsW,hy,Option.bind_some,hp,Option.map_some]⟩
theorem args_dep {t:Tag} {y:GEx}:∀p,p∈argsOf t y→dep p≤dep y:=by
 cases t<;>cases y<;>intro p hp<;>first
  | (rw[List.mem_singleton.1 hp]; exact Nat.le_refl _)
  | (rw[dep]; exact Nat.le_succ_of_le (deps_iff.1 (Nat.le_refl _) p hp))
theorem joined_dep {t:Tag} {m:Nat}:∀{l:List GEx},(∀p,p∈l→dep p≤m)→dep (joined t l)≤m+1
 | [],_=>by
  rw[show joined t []=mkOp t [] from rfl,dep_op,deps]
  omega
 | [a],h=>Nat.le_succ_of_le (h a (by simp))
 | a::b::l,h=>by
  rw[show joined t (a::b::l)=mkOp t (a::b::l) from rfl,dep_op]
  have:=deps_iff.2 h
  omega
theorem sum_dep {n m:Nat} {ps:List GEx} (hm:1≤m) (h:∀p,p∈ps→dep p≤m):dep (sumNF n ps)≤m+1:=by
 unfold sumNF
 split
 ·refine joined_dep fun p hp=>?_
  rcases List.mem_cons.1 hp with rfl | hp
  ·rw[dep]; exact hm
  ·exact h p (List.mem_filter.1 hp).1
 ·exact joined_dep fun p hp=>h p (List.mem_filter.1 hp).1
theorem choice_dep {t:Tag} {m:Nat} {ps:List GEx} (h:∀p,p∈ps→dep p≤m):dep (choiceNF t ps)≤m+1:=
 joined_dep fun p hp=>h p ((mem_dedupe.1 hp).elim id fun e=>by simp at e)
theorem times_total {n:Nat} {k:Rat}:∀{m f:Nat} {y:GEx},NF n y→dep y≤m→m≤f→∃z,timesW (normF n f) n k y=some z∧dep z≤dep y+1
 | 0,_,y,_,hd,_=>by have:=dep_pos y; omega
 | m+1,0,y,_,_,hf=>by omega
 | m+1,f+1,y,hn,hd,hf=>by
  have hone:∀b,NF n b→dep b≤m→∃z,normF n (f+1) (.scale k b)=some z∧dep z≤dep b+1:=fun b hb hdb=>by
   rw[normF_succ]
   cases hl:linOf n (.scale k b) with
   | some g=>exact ⟨.form g,step_some hl,by rw[dep]; omega⟩
   | none=>
    rw[step_none hl]
    show ∃z,(normF n f b).bind (timesW (normF n f) n k)=some z∧_
    rw[nf_same hb (by omega),Option.bind_some]
    exact times_total (m:=m) hb hdb (by omega)
  have hop:∀(t:Tag) (l:List GEx),NF n (mkOp t l)→deps l≤m→∀u,∃ps,partsW (normF n (f+1)) u (l.map (.scale k))=some ps∧∀p,p∈ps→dep p≤deps l+1:=fun t l hl hdl u=>by
   have h:=nf_op.1 hl
   have hd1:=deps_iff.1 hdl
   obtain ⟨ps,hp⟩:=parts_some (g:=normF n (f+1)) (t:=u) (l:=l.map (.scale k)) fun a ha=>by
    obtain ⟨b,hb,rfl⟩:=List.mem_map.1 ha
    obtain ⟨z,hz,_⟩:=hone b (h.2.1 b hb) (hd1 b hb)
    exact ⟨z,hz⟩
   refine ⟨ps,hp,fun p hpm=>?_⟩
   obtain ⟨a,ha,y,hy,hpy⟩:=(mem_parts hp p).1 hpm
   obtain ⟨b,hb,rfl⟩:=List.mem_map.1 ha
   obtain ⟨z,hz,hdz⟩:=hone b (h.2.1 b hb) (hd1 b hb)
   rw[hz] at hy
   cases hy
   have h1:=args_dep p hpy
   have h2:=deps_iff.1 (Nat.le_refl (deps l)) b hb
   omega
  cases y with
  | form g=>exact ⟨_,rfl,by rw[dep,dep]; omega⟩
  | add l=>
   rw[dep] at hd
   obtain ⟨ps,h1,h2⟩:=hop .add l hn (by omega) .add
   rw[timesW,h1,Option.map_some]
   exact ⟨_,rfl,by rw[dep]; exact sum_dep (by omega) h2⟩
  | min l=>
   rw[dep] at hd
   obtain ⟨ps,h1,h2⟩:=hop .min l hn (by omega) (flip k .min)
   rw[timesW,h1,Option.map_some]
   exact ⟨_,rfl,by rw[dep]; exact choice_dep h2⟩
  | max l=>
   rw[dep] at hd
   obtain ⟨ps,h1,h2⟩:=hop .max l hn (by omega) (flip k .max)
   rw[timesW,h1,Option.map_some]
   exact ⟨_,rfl,by rw[dep]; exact choice_dep h2⟩
  | scale l b=>
   refine ⟨_,rfl,?_⟩
   split
   ·rw[dep]; omega
   ·rw[dep,dep]; omega
  | abs b=>
   refine ⟨_,rfl,?_⟩
   split
   ·omega
   ·rw[dep]; omega
theorem dep_abs (y:GEx):dep (.abs y)=dep y+1:=by rw[dep]
theorem dep_form (f:LF):dep (.form f)=1:=by rw[dep]
theorem magn_dep {y:GEx}:dep (magn y)≤dep y+1:=by
 cases y with
 | form f=>
  rw[magn]
  split
  ·rw[dep_form,dep_form]; omega
  ·split
   ·rw[dep_abs,dep_form,dep_form]; omega
   ·rw[dep_abs]; omega
 | _=>exact Nat.le_of_eq (dep_abs _)
theorem norm_total {n:Nat}:∀{f:Nat} {a:GEx},Over n a→dep a≤f→∃y,normF n f a=some y∧dep y≤dep a
 | 0,a,_,hd=>by have:=dep_pos a; omega
 | f+1,a,ho,hd=>by
  have ih:=fun b=>norm_total (n:=n) (f:=f) (a:=b)
  rw[normF_succ]
  cases hl:linOf n a with
  | some g=>exact ⟨.form g,step_some hl,by rw[dep]; exact dep_pos a⟩
  | none=>
   rw[step_none hl]
   have hop:∀(t:Tag) (l:List GEx),Over n (mkOp t l)→deps l≤f→∃ps,partsW (normF n f) t l=some ps∧1≤deps l∧∀p,p∈ps→dep p≤deps l:=fun t l hl hdl=>by
    have h:=over_op.1 hl
    have hd1:=deps_iff.1 hdl
    obtain ⟨ps,hp⟩:=parts_some (g:=normF n f) (t:=t) (l:=l) fun a ha=>by
     obtain ⟨z,hz,_⟩:=ih a (h.2 a ha) (hd1 a ha)
     exact ⟨z,hz⟩
    refine ⟨ps,hp,?_,fun p hpm=>?_⟩
    ·obtain ⟨a,ha⟩:=List.exists_mem_of_ne_nil _ h.1
     have h1:=deps_iff.1 (Nat.le_refl (deps l)) a ha
     have h2:=dep_pos a
     omega
    ·obtain ⟨a,ha,y,hy,hpy⟩:=(mem_parts hp p).1 hpm
     obtain ⟨z,hz,hdz⟩:=ih a (h.2 a ha) (hd1 a ha)
     rw[hz] at hy
     cases hy
     have h1:=args_dep p hpy
     have h2:=deps_iff.1 (Nat.le_refl (deps l)) a ha
     omega
   cases a with
   | form g=>rw[linOf] at hl; cases hl
   | add l=>
    rw[dep] at hd
    obtain ⟨ps,h1,h2,h3⟩:=hop .add l ho (by omega)
    exact ⟨_,by show (partsW (normF n f) .add l).map (sumNF n)=_; rw[h1,Option.map_some],by rw[dep]; exact sum_dep h2 h3⟩
   | min l=>
    rw[dep] at hd
    obtain ⟨ps,h1,h2,h3⟩:=hop .min l ho (by omega)
    exact ⟨_,by show (partsW (normF n f) .min l).map (choiceNF .min)=_; rw[h1,Option.map_some],by rw[dep]; exact choice_dep h3⟩
   | max l=>
    rw[dep] at hd
    obtain ⟨ps,h1,h2,h3⟩:=hop .max l ho (by omega)
    exact ⟨_,by show (partsW (normF n f) .max l).map (choiceNF .max)=_; rw[h1,Option.map_some],by rw[dep]; exact choice_dep h3⟩
   | scale k a=>
    rw[dep] at hd
    obtain ⟨b,h1,h2⟩:=ih a (over_scale.1 ho) (by omega)
    obtain ⟨z,h3,h4⟩:=times_total (k:=k) (m:=dep b) (f:=f) (normF_nf a b (over_scale.1 ho) h1) (Nat.le_refl _) (by omega)
    exact ⟨z,by show (normF n f a).bind (timesW (normF n f) n k)=_; rw[h1,Option.bind_some,h3],by rw[dep]; omega⟩
   | abs a=>
    rw[dep] at hd
    obtain ⟨b,h1,h2⟩:=ih a (over_abs.1 ho) (by omega)
    have h3:=magn_dep (y:=b)
    exact ⟨_,by show (normF n f a).map magn=_; rw[h1,Option.map_some],by rw[dep]; omega⟩
theorem normF_most {n:Nat} {f:Nat} {a y:GEx} (h:normF n f a=some y):∀{g:Nat},f≤g→normF n g a=some y
 | g,hg=>by
  obtain ⟨d,rfl⟩:=Nat.exists_eq_add_of_le hg
  clear hg
  induction d with
  | zero=>exact h
  | succ d ih=>exact normF_more ih
theorem norm_any {n:Nat} {a:GEx} (ho:Over n a):∃y,(∀f,dep a≤f→normF n f a=some y)∧Over n y∧NF n y∧dep y≤dep a∧(∀x,eval x y=eval x a)∧∀f,dep y≤f→normF n f y=some y:=by
 obtain ⟨y,h1,h2⟩:=norm_total ho (Nat.le_refl (dep a))
 have h3:=normF_nf a y ho h1
 exact ⟨y,fun f hf=>normF_most h1 hf,(normF_val [] a y ho h1).1,h3,h2,fun x=>(normF_val x a y ho h1).2,fun f hf=>nf_same h3 hf⟩
def mn (a b:Rat):Rat:=if b<a then b else a
def mx (a b:Rat):Rat:=if a<b then b else a
def ab (a:Rat):Rat:=if a<0 then -a else a
theorem mn_le (a b:Rat):mn a b≤a∧mn a b≤b:=by
 unfold mn
 split<;>constructor<;>grind
theorem mx_le (a b:Rat):a≤mx a b∧b≤mx a b:=by
 unfold mx
 split<;>constructor<;>grind
def spread : List Rat→List (Rat×Rat)→Rat×Rat
 | k::t,p::l=>(mn (k*p.1) (k*p.2)+(spread t l).1,mx (k*p.1) (k*p.2)+(spread t l).2)
 | _,_=>(0,0)
mutual
def bnd (l:List (Rat×Rat)):GEx→Rat×Rat
 | .form f=>(f.c+(spread f.t l).1,f.c+(spread f.t l).2)
 | .scale k a=>(mn (k*(bnd l a).1) (k*(bnd l a).2),mx (k*(bnd l a).1) (k*(bnd l a).2))
 | .add m=>(sumOf ((bnds l m).map (·.1)),sumOf ((bnds l m).map (·.2)))
 | .min m=>(leastOf ((bnds l m).map (·.1)),leastOf ((bnds l m).map (·.2)))
 | .max m=>(mostOf ((bnds l m).map (·.1)),mostOf ((bnds l m).map (·.2)))
 | .abs a=>if (bnd l a).1≤0∧0≤(bnd l a).2 then (0,mx (ab (bnd l a).1) (ab (bnd l a).2)) else (mn (ab (bnd l a).1) (ab (bnd l a).2),mx (ab (bnd l a).1) (ab (bnd l a).2))
def bnds (l:List (Rat×Rat)):List GEx→List (Rat×Rat)
 | []=>[]
 | a::m=>bnd l a::bnds l m
end
def AllIn : List (Rat×Rat)→List Rat→Prop
 | p::l,v::m=>(p.1≤v∧v≤p.2)∧AllIn l m
 | [],[]=>True
 | _,_=>False
theorem scale_in {k a b y:Rat} (h1:a≤y) (h2:y≤b):mn (k*a) (k*b)≤k*y∧k*y≤mx (k*a) (k*b):=by
 have hn:=mn_le (k*a) (k*b)
 have hx:=mx_le (k*a) (k*b)
 by_cases hk:k<0
 ·have e1:=mul_le_neg hk h1
  have e2:=mul_le_neg hk h2
  constructor<;>grind
 ·have e1:=mul_le_pos (Rat.not_lt.1 hk) h1
  have e2:=mul_le_pos (Rat.not_lt.1 hk) h2
  constructor<;>grind
theorem spread_in : ∀(t:List Rat) {l:List (Rat×Rat)} {x:List Rat},AllIn l x→(spread t l).1≤dot t x∧dot t x≤(spread t l).2
 | [],l,x,_=>by
  have e1:spread [] l=(0,0):=by cases l<;>rfl
  have e2:dot [] x=0:=by cases x<;>rfl
  rw[e1,e2]
  exact ⟨Rat.le_refl,Rat.le_refl⟩
 | k::t,[],[],_=>⟨Rat.le_refl,Rat.le_refl⟩
 | k::t,[],_::_,h=>h.elim
 | k::t,_::_,[],h=>h.elim
 | k::t,p::l,y::x,h=>by
  have ih:=spread_in t h.2
  have h1:=scale_in (k:=k) h.1.1 h.1.2
  show mn (k*p.1) (k*p.2)+(spread t l).1≤k*y+dot t x∧k*y+dot t x≤mx (k*p.1) (k*p.2)+(spread t l).2
  constructor<;>grind
theorem sum_in : ∀{l:List (Rat×Rat)} {m:List Rat},AllIn l m→sumOf (l.map (·.1))≤sumOf m∧sumOf m≤sumOf (l.map (·.2))
 | [],[],_=>⟨Rat.le_refl,Rat.le_refl⟩
 | [],_::_,h=>h.elim
 | _::_,[],h=>h.elim
 | p::l,v::m,h=>by
  have ih:=sum_in h.2
  have h1:=h.1
  rw[List.map_cons,List.map_cons,sumOf,sumOf,sumOf]
  constructor<;>grind
theorem least_in : ∀{l:List (Rat×Rat)} {m:List Rat},AllIn l m→leastOf (l.map (·.1))≤leastOf m∧leastOf m≤leastOf (l.map (·.2))
 | [],[],_=>⟨Rat.le_refl,Rat.le_refl⟩
 | [],_::_,h=>h.elim
 | _::_,[],h=>h.elim
 | [p],[v],h=>h.1
 | [_],_::_::_,h=>h.2.elim
 | _::_::_,[_],h=>h.2.elim
 | p::q::l,v::w::m,h=>by
  have ih:=least_in (l:=q::l) (m:=w::m) h.2
  have h1:=h.1
  simp only[List.map_cons] at ih⊢
  rw[leastOf_cons,leastOf_cons,leastOf_cons]
  constructor<;>grind
theorem most_in : ∀{l:List (Rat×Rat)} {m:List Rat},AllIn l m→mostOf (l.map (·.1))≤mostOf m∧mostOf m≤mostOf (l.map (·.2))
 | [],[],_=>⟨Rat.le_refl,Rat.le_refl⟩
 | [],_::_,h=>h.elim
 | _::_,[],h=>h.elim
 | [p],[v],h=>h.1
 | [_],_::_::_,h=>h.2.elim
 | _::_::_,[_],h=>h.2.elim
 | p::q::l,v::w::m,h=>by
  have ih:=most_in (l:=q::l) (m:=w::m) h.2
  have h1:=h.1
  simp only[List.map_cons] at ih⊢
  rw[mostOf_cons,mostOf_cons,mostOf_cons]
  constructor<;>grind
theorem abs_in {p:Rat×Rat} {v:Rat} (h:p.1≤v∧v≤p.2):((if p.1≤0∧0≤p.2 then (0,mx (ab p.1) (ab p.2)) else (mn (ab p.1) (ab p.2),mx (ab p.1) (ab p.2)):Rat×Rat)).1≤ab v∧ab v≤((if p.1≤0∧0≤p.2 then (0,mx (ab p.1) (ab p.2)) else (mn (ab p.1) (ab p.2),mx (ab p.1) (ab p.2)):Rat×Rat)).2:=by
 obtain ⟨a,b⟩:=p
 obtain ⟨h1,h2⟩:=h
 have h3:a≤v:=h1
 have h4:v≤b:=h2
 have hn:=mn_le (ab a) (ab b)
 have hx:=mx_le (ab a) (ab b)
 generalize mn (ab a) (ab b)=N at hn⊢
 generalize mx (ab a) (ab b)=X at hx⊢
 unfold ab at hn hx⊢
 by_cases hc:a≤0∧0≤b
 ·simp only[hc,and_self,if_true]
  constructor<;>grind
 ·simp only[hc,if_false]
  constructor<;>grind
mutual
theorem bnd_in {l:List (Rat×Rat)} {x:List Rat} (h:AllIn l x):∀a:GEx,(bnd l a).1≤eval x a∧eval x a≤(bnd l a).2
 | .form f=>by
  have k:=spread_in f.t h
  rw[bnd,eval]
  unfold LF.val
  constructor<;>grind
 | .scale k a=>by
  have k:=bnd_in h a
  rw[bnd,eval]
  exact scale_in k.1 k.2
 | .abs a=>by
  have k:=bnd_in h a
  rw[bnd,eval]
  exact abs_in k
 | .add m=>by
  have k:=bnds_in h m
  rw[bnd,eval]
  exact sum_in k
 | .min m=>by
  have k:=bnds_in h m
  rw[bnd,eval]
  exact least_in k
 | .max m=>by
  have k:=bnds_in h m
  rw[bnd,eval]
  exact most_in k
theorem bnds_in {l:List (Rat×Rat)} {x:List Rat} (h:AllIn l x):∀m:List GEx,AllIn (bnds l m) (evals x m)
 | []=>by rw[bnds,evals]; trivial
 | a::m=>by
  rw[bnds,evals]
  exact ⟨bnd_in h a,bnds_in h m⟩
end
def ends (least:Bool):List Rat→List (Rat×Rat)→List Rat
 | k::t,p::l=>(if decide (k<0)=least then p.2 else p.1)::ends least t l
 | _,_=>[]
theorem end_low {k a b:Rat} (h:a≤b):mn (k*a) (k*b)=k*(if decide (k<0)=true then b else a):=by
 by_cases hk:k<0
 ·have e:=mul_le_neg hk h
  simp only[hk,decide_true,if_true]
  unfold mn
  split<;>grind
 ·have e:=mul_le_pos (Rat.not_lt.1 hk) h
  simp only[hk,decide_false,Bool.false_eq_true,if_false]
  unfold mn
  split<;>grind
theorem end_high {k a b:Rat} (h:a≤b):mx (k*a) (k*b)=k*(if decide (k<0)=false then b else a):=by
 by_cases hk:k<0
 ·have e:=mul_le_neg hk h
  simp only[hk,decide_true,Bool.true_eq_false,if_false]
  unfold mx
  split<;>grind
 ·have e:=mul_le_pos (Rat.not_lt.1 hk) h
  simp only[hk,decide_false,if_true]
  unfold mx
  split<;>grind
theorem ends_low : ∀{t:List Rat} {l:List (Rat×Rat)},(∀p,p∈l→p.1≤p.2)→dot t (ends true t l)=(spread t l).1
 | [],[],_=>rfl
 | [],_::_,_=>rfl
 | _::_,[],_=>rfl
 | k::t,p::l,h=>by
  have ih:=ends_low (t:=t) (l:=l) fun q hq=>h q (by simp[hq])
  show k*_+dot t (ends true t l)=mn (k*p.1) (k*p.2)+(spread t l).1
  rw[ih,end_low (h p (by simp))]
theorem ends_high : ∀{t:List Rat} {l:List (Rat×Rat)},(∀p,p∈l→p.1≤p.2)→dot t (ends false t l)=(spread t l).2
 | [],[],_=>rfl
 | [],_::_,_=>rfl
 | _::_,[],_=>rfl
 | k::t,p::l,h=>by
  have ih:=ends_high (t:=t) (l:=l) fun q hq=>h q (by simp[hq])
  show k*_+dot t (ends false t l)=mx (k*p.1) (k*p.2)+(spread t l).2
  rw[ih,end_high (h p (by simp))]
theorem form_ends {f:LF} {l:List (Rat×Rat)} (h:∀p,p∈l→p.1≤p.2):bnd l (.form f)=(f.val (ends true f.t l),f.val (ends false f.t l)):=by
 rw[bnd]
 unfold LF.val
 rw[ends_low h,ends_high h]
theorem ab_nonneg (a:Rat):0≤ab a:=by
 unfold ab
 split<;>grind
theorem ab_add (a b:Rat):ab (a+b)≤ab a+ab b:=by
 unfold ab
 split<;>split<;>split<;>grind
theorem ab_is (a:Rat):ab a=a∨ab a = -a:=by
 unfold ab
 split
 ·exact .inr rfl
 ·exact .inl rfl
theorem ab_pos {a:Rat} (h:0≤a):ab a=a:=by
 unfold ab
 split<;>grind
theorem ab_neg (a:Rat):ab (-a)=ab a:=by
 unfold ab
 split<;>split<;>grind
theorem ab_mul (a k:Rat):ab (a*k)=ab a*ab k:=by
 have h:=Rat.mul_nonneg (ab_nonneg a) (ab_nonneg k)
 rcases ab_is a with e1 | e1<;>rcases ab_is k with e2 | e2<;>rw[e1,e2] at h⊢
 ·exact ab_pos h
 ·rw[show a*k = -(a * -k) by grind,ab_neg]; exact ab_pos h
 ·rw[show a*k = -(-a*k) by grind,ab_neg]; exact ab_pos h
 ·rw[show a*k = -a * -k by grind]; exact ab_pos h
def sumAb : List Rat→Rat
 | []=>0
 | a::l=>ab a+sumAb l
theorem sumAb_nonneg : ∀l:List Rat,0≤sumAb l
 | []=>Rat.le_refl
 | a::l=>by
  have h1:=ab_nonneg a
  have h2:=sumAb_nonneg l
  rw[sumAb]
  grind
theorem sumAb_add : ∀l m:List Rat,sumAb (List.zipWith (· + ·) l m)≤sumAb l+sumAb m
 | [],m=>by
  have h:=sumAb_nonneg m
  rw[List.zipWith_nil_left]
  show (0:Rat)≤0+sumAb m
  grind
 | a::l,[]=>by
  have h:=sumAb_nonneg (a::l)
  rw[List.zipWith_nil_right]
  simp only[sumAb] at h⊢
  grind
 | a::l,b::m=>by
  have ih:=sumAb_add l m
  have h:=ab_add a b
  rw[List.zipWith_cons_cons,sumAb,sumAb,sumAb]
  grind
theorem sumAb_scale (k:Rat):∀l:List Rat,sumAb (l.map (· * k))=sumAb l*ab k
 | []=>by rw[List.map_nil,sumAb,Rat.zero_mul]
 | a::l=>by
  rw[List.map_cons,sumAb,sumAb,sumAb_scale k l,ab_mul]
  grind
theorem sumAb_zero : ∀n:Nat,sumAb (List.replicate n 0)=0
 | 0=>rfl
 | n+1=>by
  rw[List.replicate_succ,sumAb,sumAb_zero n,ab_pos Rat.le_refl,Rat.zero_add]
def LF.wt (f:LF):Rat:=1+ab f.c+sumAb f.t
theorem lf_one (f:LF):1≤f.wt:=by
 have h1:=ab_nonneg f.c
 have h2:=sumAb_nonneg f.t
 unfold LF.wt
 grind
theorem lf_zero (n:Nat):(LF.zero n).wt=1:=by
 unfold LF.wt LF.zero
 rw[sumAb_zero,ab_pos Rat.le_refl]
 grind
theorem lf_add (f g:LF):(f.add g).wt+1≤f.wt+g.wt:=by
 have h1:=ab_add f.c g.c
 have h2:=sumAb_add f.t g.t
 unfold LF.wt LF.add
 show 1+ab (f.c+g.c)+sumAb (List.zipWith (· + ·) f.t g.t)+1≤_
 grind
def big (k:Rat):Rat:=mx (ab k) 1
theorem big_one (k:Rat):1≤big k:=(mx_le (ab k) 1).2
theorem big_ab (k:Rat):ab k≤big k:=(mx_le (ab k) 1).1
theorem lf_scale (f:LF) (k:Rat):(f.scale k).wt≤big k*f.wt:=by
 have h1:=big_one k
 have h3:=Rat.mul_nonneg (show 0≤big k-ab k by have:=big_ab k; grind) (ab_nonneg f.c)
 have h4:=Rat.mul_nonneg (show 0≤big k-ab k by have:=big_ab k; grind) (sumAb_nonneg f.t)
 unfold LF.wt LF.scale
 show 1+ab (f.c*k)+sumAb (f.t.map (· * k))≤_
 rw[ab_mul,sumAb_scale]
 grind
theorem big_mul (k l:Rat):big (k*l)≤big k*big l:=by
 have h1:=mul_le_pos (show 0≤big k by have:=big_one k; grind) (big_ab l)
 have h2:=mul_le_pos (ab_nonneg l) (big_ab k)
 have h3:=mul_le_pos (show 0≤big k by have:=big_one k; grind) (big_one l)
 have h4:=big_one k
 have e:=ab_mul k l
 show mx (ab (k*l)) 1≤_
 unfold mx
 split<;>grind
mutual
def wt : GEx→Rat
 | .form f=>f.wt
 | .scale k a=>big k*wt a
 | .add l=>wts l
 | .min l=>wts l
 | .max l=>wts l
 | .abs a=>wt a
def wts : List GEx→Rat
 | []=>0
 | a::l=>wt a+wts l
end
theorem wts_map : ∀l:List GEx,wts l=sumOf (l.map wt)
 | []=>rfl
 | a::l=>by rw[wts,wts_map l,List.map_cons,sumOf]
theorem wt_op {t:Tag} {l:List GEx}:wt (mkOp t l)=wts l:=by cases t<;>rw[mkOp,wt]
theorem wts_app (l m:List GEx):wts (l++m)=wts l+wts m:=by rw[wts_map,wts_map,wts_map,List.map_append,sumOf_append]
mutual
theorem wt_nonneg : ∀a:GEx,0≤wt a
 | .form f=>by have:=lf_one f; rw[wt]; grind
 | .scale k a=>by rw[wt]; exact Rat.mul_nonneg (by have:=big_one k; grind) (wt_nonneg a)
 | .add l=>by rw[wt]; exact wts_nonneg l
 | .min l=>by rw[wt]; exact wts_nonneg l
 | .max l=>by rw[wt]; exact wts_nonneg l
 | .abs a=>by rw[wt]; exact wt_nonneg a
theorem wts_nonneg : ∀l:List GEx,0≤wts l
 | []=>by rw[wts]; exact Rat.le_refl
 | a::l=>by
  have h1:=wt_nonneg a
  have h2:=wts_nonneg l
  rw[wts]
  grind
end
theorem wts_one (a:GEx):wts [a]=wt a:=by rw[wts,wts,Rat.add_zero]
theorem wt_joined (t:Tag):∀l:List GEx,wt (joined t l)=wts l
 | []=>wt_op
 | [a]=>(wts_one a).symm
 | _::_::_=>wt_op
theorem wt_args (t:Tag) (y:GEx):wts (argsOf t y)=wt y:=by
 cases t<;>cases y<;>first
  | exact wts_one _
  | (rw[wt]; rfl)
theorem parts_wt {g:GEx→Option GEx} {t:Tag}:∀{l ps:List GEx},partsW g t l=some ps→(∀a,a∈l→∀y,g a=some y→wt y≤wt a)→wts ps≤wts l
 | [],ps,e,_=>by
  have:ps = []:=by simpa[partsW] using e.symm
  rw[this]
  exact Rat.le_refl
 | a::l,ps,e,h=>by
  rw[partsW] at e
  obtain ⟨y,h1,h2⟩:=Option.bind_eq_some_iff.1 e
  obtain ⟨qs,h3,rfl⟩:=Option.map_eq_some_iff.1 h2
  have ih:=parts_wt h3 fun b hb=>h b (by simp[hb])
  have h4:=h a (by simp) y h1
  rw[wts_app,wt_args,wts]
  grind
theorem dedupe_wt : ∀{l out:List GEx},wts (dedupe l out)≤wts l+wts out
 | [],out=>by rw[dedupe,wts]; grind
 | y::l,out=>by
  have h:=wt_nonneg y
  rw[dedupe,wts]
  split
  ·have ih:=dedupe_wt (l:=l) (out:=out)
   grind
  ·have ih:=dedupe_wt (l:=l) (out:=out++[y])
   rw[wts_app,wts_one] at ih
   grind
theorem choice_wt (t:Tag) (ps:List GEx):wt (choiceNF t ps)≤wts ps:=by
 have h:=dedupe_wt (l:=ps) (out:=[])
 unfold choiceNF
 rw[wt_joined]
 rw[show wts []=0 by rw[wts],Rat.add_zero] at h
 exact h
theorem fold_wt : ∀{l:List GEx} {o:LF},(l.foldl addPart o).wt+wts (l.filter fun y=>!isForm y)≤o.wt+wts l
 | [],o=>Rat.le_refl
 | a::l,o=>by
  rw[List.foldl_cons,List.filter_cons,wts]
  cases hf:isForm a with
  | true=>
   cases a with
   | form g=>
    have ih:=fold_wt (l:=l) (o:=o.add g)
    have h:=lf_add o g
    simp only[Bool.not_true,Bool.false_eq_true,if_false]
    rw[wt]
    show (l.foldl addPart (o.add g)).wt+_≤_
    grind
   | _=>cases hf
  | false=>
   have ih:=fold_wt (l:=l) (o:=o)
   simp only[Bool.not_false,if_true]
   rw[addPart_other hf,wts]
   grind
theorem fold_wt1 : ∀{l:List GEx} {o:LF},(∃a,a∈l∧isForm a=true)→(l.foldl addPart o).wt+wts (l.filter fun y=>!isForm y)+1≤o.wt+wts l
 | [],o,h=>by obtain ⟨a,ha,_⟩:=h; simp at ha
 | a::l,o,h=>by
  rw[List.foldl_cons,List.filter_cons,wts]
  cases hf:isForm a with
  | true=>
   cases a with
   | form g=>
    have ih:=fold_wt (l:=l) (o:=o.add g)
    have h:=lf_add o g
    simp only[Bool.not_true,Bool.false_eq_true,if_false]
    rw[wt]
    show (l.foldl addPart (o.add g)).wt+_+1≤_
    grind
   | _=>cases hf
  | false=>
   have h2:∃b,b∈l∧isForm b=true:=by
    obtain ⟨b,hb,hbf⟩:=h
    rcases List.mem_cons.1 hb with rfl | hb
    ·rw[hf] at hbf; cases hbf
    ·exact ⟨b,hb,hbf⟩
   have ih:=fold_wt1 (l:=l) (o:=o) h2
   simp only[Bool.not_false,if_true]
   rw[addPart_other hf,wts]
   grind
theorem sum_wt {n:Nat} {ps:List GEx} (hp:ps≠[]):wt (sumNF n ps)≤wts ps:=by
 unfold sumNF forms
 by_cases hex:∃a,a∈ps∧isForm a=true
 ·have h:=fold_wt1 (o:=LF.zero n) hex
  have h1:=lf_one (ps.foldl addPart (LF.zero n))
  rw[lf_zero] at h
  split
  ·rw[wt_joined,wts,wt]
   grind
  ·rw[wt_joined]
   grind
 ·have hno:∀b,b∈ps→isForm b=false:=fun b hb=>by
   cases hb2:isForm b with
   | true=>exact absurd ⟨b,hb,hb2⟩ hex
   | false=>rfl
  rw[fold_none hno,filter_none hno,if_neg (by rintro (h | h); exact h rfl; exact hp h),wt_joined]
  exact Rat.le_refl
theorem wts_scale (k:Rat):∀l:List GEx,wts (l.map (.scale k))=big k*wts l
 | []=>by rw[List.map_nil,wts,Rat.mul_zero]
 | a::l=>by
  rw[List.map_cons,wts,wts,wts_scale k l,wt]
  grind
def Light (n:Nat) (g:GEx→Option GEx):Prop:=∀a y,Over n a→g a=some y→wt y≤wt a
theorem le_big (k:Rat) {v:Rat} (h:0≤v):v≤big k*v:=by
 have:=Rat.mul_nonneg (show 0≤big k-1 by have:=big_one k; grind) h
 grind
theorem timesW_wt {n:Nat} {g:GEx→Option GEx} (hg:Light n g) (hk:Keeps n [] g) {k:Rat} {y z:GEx} (hy:Over n y) (e:timesW g n k y=some z):wt z≤big k*wt y:=by
 have hop:∀{t:Tag} {l ps:List GEx} {u:Tag},Over n (mkOp t l)→partsW g u (l.map (.scale k))=some ps→ps≠[]∧wts ps≤big k*wts l:=fun {t l ps u} ho h1=>by
  have hl:=over_scales (k:=k) (over_op.1 ho)
  have h3:=parts_wt h1 fun a ha y hy=>hg a y (hl.2 a ha) hy
  rw[wts_scale] at h3
  exact ⟨(op_val hk hl h1).1,h3⟩
 cases y with
 | form f=>
  cases e
  rw[wt,wt]
  exact lf_scale f k
 | add l=>
  rw[timesW] at e
  obtain ⟨ps,h1,rfl⟩:=Option.map_eq_some_iff.1 e
  have h2:=hop (t:=.add) hy h1
  have h3:=sum_wt (n:=n) h2.1
  rw[wt]
  grind
 | min l=>
  rw[timesW] at e
  obtain ⟨ps,h1,rfl⟩:=Option.map_eq_some_iff.1 e
  have h2:=hop (t:=.min) hy h1
  have h3:=choice_wt (flip k .min) ps
  rw[show wt (.min l)=wts l by rw[wt]]
  grind
 | max l=>
  rw[timesW] at e
  obtain ⟨ps,h1,rfl⟩:=Option.map_eq_some_iff.1 e
  have h2:=hop (t:=.max) hy h1
  have h3:=choice_wt (flip k .max) ps
  rw[show wt (.max l)=wts l by rw[wt]]
  grind
 | scale l y=>
  have hw:=wt_nonneg y
  rw[timesW] at e
  cases e
  have h1:=le_big l hw
  have h2:=le_big k (show 0≤big l*wt y by grind)
  have h3:=Rat.mul_nonneg (show 0≤big k*big l-big (k*l) by have:=big_mul k l; grind) hw
  rw[show wt (.scale l y)=big l*wt y by rw[wt]]
  split
  ·grind
  ·rw[wt]
   grind
 | abs y=>
  have hw:=wt_nonneg y
  rw[timesW] at e
  cases e
  rw[show wt (.abs y)=wt y by rw[wt]]
  split
  ·rw[wt]; exact le_big k hw
  ·rw[wt,wt]; exact Rat.le_refl
theorem lf_neg (f:LF):(f.scale (-1)).wt=f.wt:=by
 have h1:ab (-1:Rat)=1:=by rw[ab_neg]; exact ab_pos (by decide)
 unfold LF.wt LF.scale
 show 1+ab (f.c * -1)+sumAb (f.t.map (· * -1))=_
 rw[ab_mul,sumAb_scale,h1]
 grind
theorem abs_wt (y:GEx):wt (.abs y)≤wt y:=by rw[wt]; exact Rat.le_refl
theorem magn_wt (y:GEx):wt (magn y)≤wt y:=by
 cases y with
 | form f=>
  rw[magn]
  split
  ·rw[wt,wt]
   unfold LF.wt
   show 1+ab (ab f.c)+sumAb f.t≤_
   rw[ab_pos (ab_nonneg f.c)]
   exact Rat.le_refl
  ·split
   ·rw[wt,wt,wt,lf_neg]; exact Rat.le_refl
   ·rw[wt]; exact Rat.le_refl
 | _=>exact abs_wt _
theorem addOpt_wt {n:Nat}:∀{l:List GEx} {o f:LF},(∀a,a∈l→∀g,linOf n a=some g→g.wt≤wt a)→addOpt n (linsOf n l) (some o)=some f→f.wt+l.length≤o.wt+wts l
 | [],o,f,_,e=>by
  have h:o=f:=by simpa[linsOf,addOpt] using e
  rw[h,wts]
  simp
 | a::l,o,f,h,e=>by
  rw[linsOf] at e
  cases hl:linOf n a with
  | none=>rw[hl] at e; cases l<;>simp[addOpt] at e
  | some g=>
   rw[hl,addOpt] at e
   have ih:=addOpt_wt (fun b hb=>h b (by simp[hb])) e
   have h1:=h a (by simp) g hl
   have h2:=lf_add o g
   rw[wts,List.length_cons]
   push_cast
   grind
theorem one_wt {n:Nat}:∀{a:GEx},Over n a→1≤wt a
 | .form f,_=>by rw[wt]; exact lf_one f
 | .scale k a,h=>by
  have h1:=one_wt (over_scale.1 h)
  have h2:=le_big k (wt_nonneg a)
  rw[wt]
  grind
 | .abs a,h=>by rw[wt]; exact one_wt (over_abs.1 h)
 | .add [],h=>absurd rfl ((over_op (t:=.add)).1 h).1
 | .min [],h=>absurd rfl ((over_op (t:=.min)).1 h).1
 | .max [],h=>absurd rfl ((over_op (t:=.max)).1 h).1
 | .add (a::l),h=>by
  have h1:=one_wt (((over_op (t:=.add)).1 h).2 a (by simp))
  have h2:=wts_nonneg l
  rw[wt,wts]
  grind
 | .min (a::l),h=>by
  have h1:=one_wt (((over_op (t:=.min)).1 h).2 a (by simp))
  have h2:=wts_nonneg l
  rw[wt,wts]
  grind
 | .max (a::l),h=>by
  have h1:=one_wt (((over_op (t:=.max)).1 h).2 a (by simp))
  have h2:=wts_nonneg l
  rw[wt,wts]
  grind
theorem adds_wt {n:Nat} {l:List GEx} {f:LF} (hl:l≠[]) (h:∀a,a∈l→∀g,linOf n a=some g→g.wt≤wt a) (e:addOpt n (linsOf n l) (some (LF.zero n))=some f):f.wt≤wts l:=by
 have k:=addOpt_wt h e
 rw[lf_zero] at k
 have h1:(1:Rat)≤(l.length:Rat):=by
  cases l with
  | nil=>exact absurd rfl hl
  | cons a l=>
   rw[List.length_cons]
   push_cast
   have:(0:Rat)≤(l.length:Rat):=by exact_mod_cast Nat.zero_le _
   grind
 grind
theorem lin_wt {n:Nat}:∀{a:GEx} {f:LF},Over n a→linOf n a=some f→f.wt≤wt a
 | .form g,f,_,e=>by
  have h:g=f:=by simpa[linOf] using e
  rw[h,wt]
  exact Rat.le_refl
 | .abs a,f,_,e=>by simp[linOf] at e
 | .scale k a,f,ho,e=>by
  rw[linOf] at e
  have h1:=one_wt (over_scale.1 ho)
  rw[wt]
  split at e
  ·have h:LF.zero n=f:=by simpa using e
   rw[←h,lf_zero]
   have h2:=le_big k (wt_nonneg a)
   grind
  ·obtain ⟨g,hg,rfl⟩:=Option.map_eq_some_iff.1 e
   have ih:=lin_wt (over_scale.1 ho) hg
   have h2:=lf_scale g k
   have h3:=mul_le_pos (show 0≤big k by have:=big_one k; grind) ih
   grind
 | .add l,f,ho,e=>by
  have h:=(over_op (t:=.add)).1 ho
  rw[linOf] at e
  rw[wt]
  exact adds_wt h.1 (fun a ha g hg=>lin_wt (h.2 a ha) hg) e
 | .min l,f,ho,e=>by
  have h:=(over_op (t:=.min)).1 ho
  rw[linOf] at e
  rw[wt]
  split at e
  ·cases e
  ·exact adds_wt h.1 (fun a ha g hg=>lin_wt (h.2 a ha) hg) e
 | .max l,f,ho,e=>by
  have h:=(over_op (t:=.max)).1 ho
  rw[linOf] at e
  rw[wt]
  split at e
  ·cases e
  ·exact adds_wt h.1 (fun a ha g hg=>lin_wt (h.2 a ha) hg) e
theorem normF_wt {n:Nat}:∀{f:Nat},Light n (normF n f)
 | 0,a,y,_,e=>absurd ((normF_none n a).symm.trans e) (by simp)
 | f+1,a,y,ho,e=>by
  have ih:=normF_wt (n:=n) (f:=f)
  have iv:=normF_val (n:=n) [] (f:=f)
  have hop:∀{t:Tag} {l ps:List GEx},Over n (mkOp t l)→partsW (normF n f) t l=some ps→ps≠[]∧wts ps≤wts l:=fun {t l ps} ho h1=>by
   have hl:=over_op.1 ho
   exact ⟨(op_val iv hl h1).1,parts_wt h1 fun a ha y hy=>ih a y (hl.2 a ha) hy⟩
  rw[normF_succ] at e
  cases hl:linOf n a with
  | some g=>
   rw[step_some hl] at e
   cases e
   rw[wt]
   exact lin_wt ho hl
  | none=>
   rw[step_none hl] at e
   cases a with
   | form g=>cases e; exact Rat.le_refl
   | add l=>
    obtain ⟨ps,h1,rfl⟩:=Option.map_eq_some_iff.1 e
    have h2:=hop (t:=.add) ho h1
    have h3:=sum_wt (n:=n) h2.1
    rw[show wt (.add l)=wts l by rw[wt]]
    grind
   | min l=>
    obtain ⟨ps,h1,rfl⟩:=Option.map_eq_some_iff.1 e
    have h2:=hop (t:=.min) ho h1
    have h3:=choice_wt .min ps
    rw[show wt (.min l)=wts l by rw[wt]]
    grind
   | max l=>
    obtain ⟨ps,h1,rfl⟩:=Option.map_eq_some_iff.1 e
    have h2:=hop (t:=.max) ho h1
    have h3:=choice_wt .max ps
    rw[show wt (.max l)=wts l by rw[wt]]
    grind
   | scale k a=>
    obtain ⟨b,h1,h2⟩:=Option.bind_eq_some_iff.1 e
    have h3:=ih a b (over_scale.1 ho) h1
    have h4:=timesW_wt ih iv (iv a b (over_scale.1 ho) h1).1 h2
    have h5:=mul_le_pos (show 0≤big k by have:=big_one k; grind) h3
    rw[show wt (.scale k a)=big k*wt a by rw[wt]]
    grind
   | abs a=>
    obtain ⟨b,h1,rfl⟩:=Option.map_eq_some_iff.1 e
    have h3:=ih a b (over_abs.1 ho) h1
    have h4:=magn_wt b
    rw[show wt (.abs a)=wt a by rw[wt]]
    grind
def M2 (e:Nat) (r:Rat):Prop:=∃z:Int,r*((2^e:Int):Rat)=z
theorem m2_zero (e:Nat):M2 e 0:=⟨0,by rw[Rat.zero_mul]; rfl⟩
theorem m2_add {e:Nat} {r s:Rat} (h:M2 e r) (k:M2 e s):M2 e (r+s):=by
 obtain ⟨y,hy⟩:=h
 obtain ⟨z,hz⟩:=k
 exact ⟨y+z,by rw[Rat.intCast_add,←hy,←hz]; grind⟩
theorem m2_mul {d e:Nat} {r s:Rat} (h:M2 d r) (k:M2 e s):M2 (d+e) (r*s):=by
 obtain ⟨y,hy⟩:=h
 obtain ⟨z,hz⟩:=k
 refine ⟨y*z,?_⟩
 rw[Rat.intCast_mul,←hy,←hz,Int.pow_add,Rat.intCast_mul]
 grind
theorem m2_more {e:Nat} {r:Rat} (h:M2 e r) (d:Nat):M2 (d+e) r:=by
 have h1:M2 d 1:=⟨2^d,by rw[Rat.one_mul]⟩
 have h2:=m2_mul h1 h
 rwa[Rat.one_mul] at h2
theorem m2_neg {e:Nat} {r:Rat} (h:M2 e r):M2 e (-r):=by
 obtain ⟨y,hy⟩:=h
 exact ⟨-y,by rw[Rat.intCast_neg,←hy]; grind⟩
def LD (e:Nat) (f:LF):Prop:=M2 e f.c∧∀r,r∈f.t→M2 e r
theorem ld_zero (e n:Nat):LD e (LF.zero n):=⟨m2_zero e,fun r hr=>by rw[List.eq_of_mem_replicate hr]; exact m2_zero e⟩
theorem zip_m2 {e:Nat}:∀{l m:List Rat},(∀r,r∈l→M2 e r)→(∀r,r∈m→M2 e r)→∀r,r∈List.zipWith (· + ·) l m→M2 e r
 | [],m,_,_,r,hr=>by simp at hr
 | _::_,[],_,_,r,hr=>by simp at hr
 | a::l,b::m,h,k,r,hr=>by
  rw[List.zipWith_cons_cons] at hr
  rcases List.mem_cons.1 hr with rfl | hr
  ·exact m2_add (h a (by simp)) (k b (by simp))
  ·exact zip_m2 (fun r hr=>h r (by simp[hr])) (fun r hr=>k r (by simp[hr])) r hr
theorem ld_add {e:Nat} {f g:LF} (h:LD e f) (k:LD e g):LD e (f.add g):=⟨m2_add h.1 k.1,zip_m2 h.2 k.2⟩
theorem ld_scale {d e:Nat} {k:Rat} {f:LF} (hk:M2 d k) (h:LD e f):LD (d+e) (f.scale k):=by
 refine ⟨?_,fun r hr=>?_⟩
 ·show M2 (d+e) (f.c*k)
  rw[Rat.mul_comm]
  exact m2_mul hk h.1
 ·obtain ⟨s,hs,rfl⟩:=List.mem_map.1 hr
  show M2 (d+e) (s*k)
  rw[Rat.mul_comm]
  exact m2_mul hk (h.2 s hs)
theorem ld_more {e:Nat} {f:LF} (h:LD e f) (d:Nat):LD (d+e) f:=⟨m2_more h.1 d,fun r hr=>m2_more (h.2 r hr) d⟩
mutual
def Den (e:Nat):GEx→Prop
 | .form f=>LD e f
 | .scale k a=>∃d r,d+r=e∧M2 d k∧Den r a
 | .add l=>Dens e l
 | .min l=>Dens e l
 | .max l=>Dens e l
 | .abs a=>Den e a
def Dens (e:Nat):List GEx→Prop
 | []=>True
 | a::l=>Den e a∧Dens e l
end
theorem Dens_iff {e:Nat}:∀{l:List GEx},Dens e l↔∀a,a∈l→Den e a
 | []=>by simp[Dens]
 | a::l=>by rw[Dens,Dens_iff]; simp
theorem den_op {e:Nat} {t:Tag} {l:List GEx}:Den e (mkOp t l)↔∀a,a∈l→Den e a:=by
 cases t<;>rw[mkOp,Den,Dens_iff]
theorem den_more : ∀{e:Nat} {a:GEx},Den e a→∀d,Den (d+e) a
 | e,.form f,h,d=>by rw[Den] at h⊢; exact ld_more h d
 | e,.scale k a,h,d=>by
  rw[Den] at h⊢
  obtain ⟨c,r,rfl,h1,h2⟩:=h
  exact ⟨c,d+r,by omega,h1,den_more h2 d⟩
 | e,.abs a,h,d=>by rw[Den] at h⊢; exact den_more h d
 | e,.add l,h,d=>(den_op (t:=.add)).2 fun a ha=>den_more ((den_op (t:=.add)).1 h a ha) d
 | e,.min l,h,d=>(den_op (t:=.min)).2 fun a ha=>den_more ((den_op (t:=.min)).1 h a ha) d
 | e,.max l,h,d=>(den_op (t:=.max)).2 fun a ha=>den_more ((den_op (t:=.max)).1 h a ha) d
theorem den_args {e:Nat} {t:Tag} {y:GEx} (h:Den e y):∀p,p∈argsOf t y→Den e p:=by
 cases t<;>cases y<;>intro p hp<;>first
  | (rw[List.mem_singleton.1 hp]; exact h)
  | exact (den_op (t:=.add)).1 h p hp
  | exact (den_op (t:=.min)).1 h p hp
  | exact (den_op (t:=.max)).1 h p hp
theorem den_joined {e:Nat} {t:Tag}:∀{l:List GEx},(∀p,p∈l→Den e p)→Den e (joined t l)
 | [],h=>den_op.2 h
 | [a],h=>h a (by simp)
 | _::_::_,h=>den_op.2 h
theorem fold_den {e:Nat}:∀{l:List GEx} {o:LF},LD e o→(∀p,p∈l→Den e p)→LD e (l.foldl addPart o)
 | [],o,h,_=>h
 | a::l,o,h,k=>by
  rw[List.foldl_cons]
  refine fold_den ?_ fun p hp=>k p (by simp[hp])
  cases a with
  | form g=>
   have hg:=k (.form g) (by simp)
   rw[Den] at hg
   exact ld_add h hg
  | _=>exact h
theorem sum_den {e n:Nat} {ps:List GEx} (h:∀p,p∈ps→Den e p):Den e (sumNF n ps):=by
 have hf:=fold_den (ld_zero e n) h
 unfold sumNF forms
 split
 ·refine den_joined fun p hp=>?_
  rcases List.mem_cons.1 hp with rfl | hp
  ·rw[Den]; exact hf
  ·exact h p (List.mem_filter.1 hp).1
 ·exact den_joined fun p hp=>h p (List.mem_filter.1 hp).1
theorem choice_den {e:Nat} {t:Tag} {ps:List GEx} (h:∀p,p∈ps→Den e p):Den e (choiceNF t ps):=
 den_joined fun p hp=>h p ((mem_dedupe.1 hp).elim id fun e=>by simp at e)
theorem magn_den {e:Nat} {y:GEx} (h:Den e y):Den e (magn y):=by
 cases y with
 | form f=>
  rw[Den] at h
  rw[magn]
  split
  ·rw[Den]
   refine ⟨?_,h.2⟩
   show M2 e (if f.c<0 then -f.c else f.c)
   split
   ·exact m2_neg h.1
   ·exact h.1
  ·split
   ·rw[Den,Den]
    have h1:M2 0 (-1:Rat):=m2_neg ⟨1,by rw[Rat.one_mul]; rfl⟩
    have h2:=ld_scale h1 h
    rwa[Nat.zero_add] at h2
   ·rw[Den,Den]; exact h
 | _=>show Den e (.abs _); rw[Den]; exact h
def Fine (g:GEx→Option GEx):Prop:=∀e a y,Den e a→g a=some y→Den e y
theorem parts_den {g:GEx→Option GEx} (hg:Fine g) {e:Nat} {t:Tag} {l ps:List GEx} (hl:∀a,a∈l→Den e a) (h:partsW g t l=some ps):∀p,p∈ps→Den e p:=fun p hp=>by
 obtain ⟨a,ha,y,hy,hpy⟩:=(mem_parts h p).1 hp
 exact den_args (hg e a y (hl a ha) hy) p hpy
theorem timesW_den {g:GEx→Option GEx} (hg:Fine g) {n d r:Nat} {k:Rat} {y z:GEx} (hk:M2 d k) (hy:Den r y) (h:timesW g n k y=some z):Den (d+r) z:=by
 have hop:∀{l:List GEx},(∀a,a∈l→Den r a)→∀a,a∈l.map (GEx.scale k)→Den (d+r) a:=fun {l} hl a ha=>by
  obtain ⟨b,hb,rfl⟩:=List.mem_map.1 ha
  rw[Den]
  exact ⟨d,r,rfl,hk,hl b hb⟩
 cases y with
 | form f=>
  cases h
  rw[Den] at hy⊢
  exact ld_scale hk hy
 | add l=>
  rw[timesW] at h
  obtain ⟨ps,h1,rfl⟩:=Option.map_eq_some_iff.1 h
  exact sum_den (parts_den hg (hop ((den_op (t:=.add)).1 hy)) h1)
 | min l=>
  rw[timesW] at h
  obtain ⟨ps,h1,rfl⟩:=Option.map_eq_some_iff.1 h
  exact choice_den (parts_den hg (hop ((den_op (t:=.min)).1 hy)) h1)
 | max l=>
  rw[timesW] at h
  obtain ⟨ps,h1,rfl⟩:=Option.map_eq_some_iff.1 h
  exact choice_den (parts_den hg (hop ((den_op (t:=.max)).1 hy)) h1)
 | scale l y=>
  rw[timesW] at h
  cases h
  rw[Den] at hy
  obtain ⟨c,q,rfl,h1,h2⟩:=hy
  split
  ·rw[←Nat.add_assoc]; exact den_more h2 _
  ·rw[Den]; exact ⟨d+c,q,by omega,m2_mul hk h1,h2⟩
 | abs y=>
  rw[timesW] at h
  cases h
  split
  ·exact den_more hy d
  ·rw[Den]; exact ⟨d,r,rfl,hk,hy⟩
theorem addOpt_den {n e:Nat}:∀{l:List GEx} {o f:LF},LD e o→(∀a,a∈l→∀g,linOf n a=some g→LD e g)→addOpt n (linsOf n l) (some o)=some f→LD e f
 | [],o,f,ho,_,h=>by
  have k:o=f:=by simpa[linsOf,addOpt] using h
  rw[←k]
  exact ho
 | a::l,o,f,ho,hg,h=>by
  rw[linsOf] at h
  cases hl:linOf n a with
  | none=>rw[hl] at h; cases l<;>simp[addOpt] at h
  | some g=>
   rw[hl,addOpt] at h
   exact addOpt_den (ld_add ho (hg a (by simp) g hl)) (fun b hb=>hg b (by simp[hb])) h
theorem lin_den {n:Nat}:∀{e:Nat} {a:GEx} {f:LF},Den e a→linOf n a=some f→LD e f
 | e,.form g,f,hd,h=>by
  have k:g=f:=by simpa[linOf] using h
  rw[Den] at hd
  rw[←k]
  exact hd
 | e,.abs a,f,_,h=>by simp[linOf] at h
 | e,.scale k a,f,hd,h=>by
  rw[linOf] at h
  rw[Den] at hd
  obtain ⟨c,q,rfl,h1,h2⟩:=hd
  split at h
  ·have k:LF.zero n=f:=by simpa using h
   rw[←k]
   exact ld_zero _ n
  ·obtain ⟨g,hg,rfl⟩:=Option.map_eq_some_iff.1 h
   exact ld_scale h1 (lin_den h2 hg)
 | e,.add l,f,hd,h=>by
  rw[linOf] at h
  exact addOpt_den (ld_zero e n) (fun a ha g hg=>lin_den ((den_op (t:=.add)).1 hd a ha) hg) h
 | e,.min l,f,hd,h=>by
  rw[linOf] at h
  split at h
  ·cases h
  ·exact addOpt_den (ld_zero e n) (fun a ha g hg=>lin_den ((den_op (t:=.min)).1 hd a ha) hg) h
 | e,.max l,f,hd,h=>by
  rw[linOf] at h
  split at h
  ·cases h
  ·exact addOpt_den (ld_zero e n) (fun a ha g hg=>lin_den ((den_op (t:=.max)).1 hd a ha) hg) h
theorem normF_den {n:Nat}:∀{f:Nat},Fine (normF n f)
 | 0,e,a,y,_,h=>absurd ((normF_none n a).symm.trans h) (by simp)
 | f+1,e,a,y,hd,h=>by
  have ih:=normF_den (n:=n) (f:=f)
  rw[normF_succ] at h
  cases hl:linOf n a with
  | some g=>
   rw[step_some hl] at h
   cases h
   rw[Den]
   exact lin_den hd hl
  | none=>
   rw[step_none hl] at h
   cases a with
   | form g=>cases h; exact hd
   | add l=>
    obtain ⟨ps,h1,rfl⟩:=Option.map_eq_some_iff.1 h
    exact sum_den (parts_den ih ((den_op (t:=.add)).1 hd) h1)
   | min l=>
    obtain ⟨ps,h1,rfl⟩:=Option.map_eq_some_iff.1 h
    exact choice_den (parts_den ih ((den_op (t:=.min)).1 hd) h1)
   | max l=>
    obtain ⟨ps,h1,rfl⟩:=Option.map_eq_some_iff.1 h
    exact choice_den (parts_den ih ((den_op (t:=.max)).1 hd) h1)
   | scale k a=>
    obtain ⟨b,h1,h2⟩:=Option.bind_eq_some_iff.1 h
    rw[Den] at hd
    obtain ⟨c,q,rfl,h3,h4⟩:=hd
    exact timesW_den ih h3 (ih q a b h4 h1) h2
   | abs a=>
    obtain ⟨b,h1,rfl⟩:=Option.map_eq_some_iff.1 h
    rw[Den] at hd
    exact magn_den (ih e a b hd h1)
end Go.Gx
