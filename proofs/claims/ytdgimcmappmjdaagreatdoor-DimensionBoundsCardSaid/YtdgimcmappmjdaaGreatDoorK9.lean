/- One more than the greatest dimension that occurs (plain). -/
import Derived.Test.YtdgimcmappmjdaaGreatDoorK1
set_option linter.unusedSimpArgs false
set_option linter.unusedVariables false
set_option maxRecDepth 100000
namespace Go.Proofs.YtdgimcmappmjdaaGreatDoor
open Go.RowKit Go.Num Go.Flow
set_option maxHeartbeats 4000000

def lastT (l:List (Int×List UInt8)):Int:=l.foldl (fun n p=>max n (p.1+1)) 0
mutual
def lastE : Ex→Int
 | .mk _ _ t _ a=>lastA (lastT t) a
def lastA : Int→List Ex→Int
 | n,[]=>n
 | n,x::l=>lastA (max n (lastE x)) l
end
theorem lastT_snoc {l:List (Int×List UInt8)} {k:Nat} (h:k<l.length):lastT (l.take (k+1))=max (lastT (l.take k)) ((l.getD k (0,[])).1+1):=by
 unfold lastT
 rw[List.take_add_one,List.getElem?_eq_getElem h,List.foldl_append,List.getD_eq_getElem?_getD,List.getElem?_eq_getElem h]
 rfl
theorem lastA_append : ∀(n:Int) (l m:List Ex),lastA n (l++m)=lastA (lastA n l) m
 | n,[],m=>by rw[lastA,List.nil_append]
 | n,x::l,m=>by rw[List.cons_append,lastA,lastA,lastA_append]
theorem lastA_snoc {n:Int} {l:List Ex} {k:Nat} (h:k<l.length):lastA n (l.take (k+1))=max (lastA n (l.take k)) (lastE (l.getD k Ex.none)):=by
 rw[List.take_add_one,List.getElem?_eq_getElem h,lastA_append,List.getD_eq_getElem?_getD,List.getElem?_eq_getElem h]
 rw[show (some l[k]).toList = [l[k]] from rfl,lastA,lastA]
 rfl
theorem lastE_eq (x:Ex):lastE x=lastA (lastT x.t) x.a:=by
 cases x
 rw[lastE]
 rfl
theorem lastT_pos (l:List (Int×List UInt8)):0≤lastT l:=by
 unfold lastT
 have h:∀(l:List (Int×List UInt8)) (n:Int),0≤n→0≤l.foldl (fun n p=>max n (p.1+1)) n:=by
  intro l
  induction l with
  | nil=>exact fun n h=>h
  | cons p l ih=>exact fun n h=>ih _ (show 0≤max n (p.1+1) by omega)
 exact h l 0 (Int.le_refl _)
open Go.Gx (LF GEx)
theorem uptos_of {m:Nat}:∀{l:List GEx},(∀j,j<l.length→UptoG m (l.getD j (.add [])))→UptoGs m l
 | [],_=>by rw[UptoGs]; trivial
 | a::l,h=>by
  rw[UptoGs]
  exact ⟨h 0 (by simp),uptos_of fun j hj=>h (j+1) (by simpa using hj)⟩
theorem arg_upto_of {m:Nat} {x:GEx} (h0:opG x≠0) (h:∀j,j<(argG x).length→UptoG m ((argG x).getD j (.add []))):UptoG m x:=by
 cases x with
 | form f=>exact absurd rfl h0
 | scale k a=>rw[UptoG]; exact h 0 (by simp[argG])
 | add l=>rw[UptoG]; exact uptos_of h
 | min l=>rw[UptoG]; exact uptos_of h
 | max l=>rw[UptoG]; exact uptos_of h
 | abs a=>rw[UptoG]; exact h 0 (by simp[argG])
theorem foldT_le {m:Int}:∀(l:List (Int×List UInt8)) (n:Int),l.foldl (fun n p=>max n (p.1+1)) n≤m↔n≤m∧∀p,p∈l→p.1+1≤m
 | [],n=>by simp
 | p::l,n=>by
  rw[List.foldl_cons,foldT_le l]
  constructor
  ·rintro ⟨h1,h2⟩
   refine ⟨by omega,fun q hq=>?_⟩
   rcases List.mem_cons.1 hq with rfl | hq
   ·omega
   ·exact h2 q hq
  ·rintro ⟨h1,h2⟩
   have h3:=h2 p (by simp)
   exact ⟨by omega,fun q hq=>h2 q (by simp[hq])⟩
theorem lastT_le {m:Int} (hm:0≤m) (l:List (Int×List UInt8)):lastT l≤m↔∀p,p∈l→p.1+1≤m:=by
 unfold lastT
 rw[foldT_le]
 exact ⟨fun h=>h.2,fun h=>⟨hm,h⟩⟩
theorem lastA_le {m:Int}:∀{n:Int} {l:List Ex},lastA n l≤m↔n≤m∧∀x,x∈l→lastE x≤m
 | n,[]=>by rw[lastA]; simp
 | n,x::l=>by
  rw[lastA,lastA_le]
  constructor
  ·rintro ⟨h1,h2⟩
   refine ⟨by omega,fun q hq=>?_⟩
   rcases List.mem_cons.1 hq with rfl | hq
   ·omega
   ·exact h2 q hq
  ·rintro ⟨h1,h2⟩
   have h3:=h2 x (by simp)
   exact ⟨by omega,fun q hq=>h2 q (by simp[hq])⟩
mutual
theorem last_upto (m:Nat):∀x:GEx,lastE (raw x)≤(m:Int)↔UptoG m x
 | .form f=>by
  rw[raw,lastE,lastA,lastT_le (by omega),UptoG,upto_terms]
  unfold zTerms
  constructor
  ·intro h p hp
   have:=h ((p.1:Int),p.2) (List.mem_map.2 ⟨p,hp,rfl⟩)
   simp only at this
   omega
  ·intro h q hq
   obtain ⟨p,hp,rfl⟩:=List.mem_map.1 hq
   have:=h p hp
   simp only
   omega
 | .scale k a=>by
  rw[raw,lastE,lastA_le,UptoG,←last_upto m a]
  constructor
  ·rintro ⟨-,h⟩
   exact h _ (by simp)
  ·intro h
   refine ⟨by unfold lastT; simp,fun x hx=>?_⟩
   obtain rfl:x=raw a:=by simpa using hx
   exact h
 | .add l=>by
  rw[raw,lastE,lastA_le,UptoG,←lasts_upto m l]
  exact ⟨fun h=>h.2,fun h=>⟨by unfold lastT; simp,h⟩⟩
 | .min l=>by
  rw[raw,lastE,lastA_le,UptoG,←lasts_upto m l]
  exact ⟨fun h=>h.2,fun h=>⟨by unfold lastT; simp,h⟩⟩
 | .max l=>by
  rw[raw,lastE,lastA_le,UptoG,←lasts_upto m l]
  exact ⟨fun h=>h.2,fun h=>⟨by unfold lastT; simp,h⟩⟩
 | .abs a=>by
  rw[raw,lastE,lastA_le,UptoG,←last_upto m a]
  constructor
  ·rintro ⟨-,h⟩
   exact h _ (by simp)
  ·intro h
   refine ⟨by unfold lastT; simp,fun x hx=>?_⟩
   obtain rfl:x=raw a:=by simpa using hx
   exact h
theorem lasts_upto (m:Nat):∀l:List GEx,(∀x,x∈raws l→lastE x≤(m:Int))↔UptoGs m l
 | []=>by rw[raws,UptoGs]; simp
 | a::l=>by
  rw[raws,UptoGs,←last_upto m a,←lasts_upto m l]
  constructor
  ·intro h
   exact ⟨h _ (by simp),fun x hx=>h x (by simp[hx])⟩
  ·rintro ⟨h1,h2⟩ x hx
   rcases List.mem_cons.1 hx with rfl | hx
   ·exact h1
   ·exact h2 x hx
end
theorem lastE_pos (x:GEx):0≤lastE (raw x):=by
 rcases Int.lt_or_le (lastE (raw x)) 0 with h | h
 ·have h1:∀(n:Int) (l:List Ex),n≤lastA n l:=by
   intro n l
   induction l generalizing n with
   | nil=>rw[lastA]; exact Int.le_refl _
   | cons a l ih=>rw[lastA]; have:=ih (max n (lastE a)); omega
  have h2:=h1 (lastT (raw x).t) (raw x).a
  have h3:=lastT_pos (raw x).t
  rw[lastE_eq] at h⊢
  omega
 ·exact h
theorem upto_short {f:LF} {m:Nat} (h:¬Upto m f):∃j,j<(formTexts f).length∧m≤((formTexts f).getD j (0,[])).1:=by
 rw[upto_terms] at h
 simp only[Classical.not_forall] at h
 obtain ⟨p,hp,hl⟩:=h
 obtain ⟨j,hj,rfl⟩:=List.getElem_of_mem hp
 refine ⟨j,hj,?_⟩
 rw[List.getD_eq_getElem?_getD,List.getElem?_eq_getElem hj]
 simp only[Option.getD_some]
 omega
open Go.Gx (LF GEx mn mx eval evals sumOf mostOf)
theorem evals_len (x:List Rat):∀l:List GEx,(evals x l).length=l.length
 | []=>rfl
 | a::l=>by rw[evals,List.length_cons,evals_len x l,List.length_cons]
theorem evals_at (x:List Rat):∀{l:List GEx} {j:Nat},j<l.length→(evals x l).getD j 0=eval x (l.getD j (.add []))
 | [],j,h=>by simp at h
 | a::l,0,_=>by rw[evals]; rfl
 | a::l,j+1,h=>by rw[evals]; exact evals_at x (l:=l) (by simpa using h)
def evTo (o:Int) (x:List Rat) (l:List GEx) (k:Nat):Rat:=foldB (fop o) ((evals x l).take k)
theorem ev_snoc (x:List Rat) {l:List GEx} {k:Nat} (h:k<l.length):(evals x l).take (k+1)=(evals x l).take k++[eval x (l.getD k (.add []))]:=by
 rw[List.take_add_one,List.getElem?_eq_getElem (by rw[evals_len]; exact h)]
 have e:=evals_at x h
 rw[List.getD_eq_getElem?_getD,List.getElem?_eq_getElem (by rw[evals_len]; exact h)] at e
 simp only[Option.getD_some] at e
 rw[e]
 rfl
theorem evTo_one (o:Int) (x:List Rat) {l:List GEx} (h:0<l.length):evTo o x l 1=eval x (l.getD 0 (.add [])):=by
 unfold evTo
 rw[ev_snoc x h]
 rfl
theorem evTo_succ (o:Int) (x:List Rat) {l:List GEx} {k:Nat} (h:k<l.length) (h0:0<k):evTo o x l (k+1)=fop o (evTo o x l k) (eval x (l.getD k (.add []))):=by
 unfold evTo
 have hne:(evals x l).take k≠[]:=by
  intro e
  have:=congrArg List.length e
  rw[List.length_take,evals_len,List.length_nil] at this
  omega
 rw[ev_snoc x h,foldB_snoc _ hne]
theorem evTo_all (o:Int) (x:List Rat) (l:List GEx):evTo o x l l.length=foldB (fop o) (evals x l):=by
 unfold evTo
 rw[List.take_of_length_le (by rw[evals_len]; exact Nat.le_refl _)]
theorem ev_add (x:List Rat) (l:List GEx):evTo 1 x l l.length=eval x (.add l):=by
 rw[evTo_all,eval]
 show foldB (fun a b=>a+b) _=_
 rw[foldB_sum]
theorem ev_min (x:List Rat) (l:List GEx):evTo 3 x l l.length=eval x (.min l):=by
 rw[evTo_all,eval]
 show foldB mn _=_
 rw[foldB_mn]
theorem ev_max (x:List Rat) (l:List GEx):evTo 4 x l l.length=eval x (.max l):=by
 rw[evTo_all,eval]
 show foldB mx _=_
 rw[foldB_mx]
mutual
def esz : GEx→Nat
 | .form f=>62+f.t.length*75
 | .scale _ a=>esz a+65
 | .add l=>2+eszs l
 | .min l=>2+eszs l
 | .max l=>2+eszs l
 | .abs a=>esz a+3
def eszs : List GEx→Nat
 | []=>0
 | a::l=>esz a+1+eszs l
end
theorem esz_two : ∀x:GEx,2≤esz x
 | .form f=>by rw[esz]; omega
 | .scale _ a=>by rw[esz]; omega
 | .add l=>by rw[esz]; omega
 | .min l=>by rw[esz]; omega
 | .max l=>by rw[esz]; omega
 | .abs a=>by rw[esz]; omega
theorem eszs_take : ∀{l:List GEx} {k:Nat},k<l.length→eszs (l.take (k+1))=eszs (l.take k)+(esz (l.getD k (.add []))+1)
 | [],k,h=>by simp at h
 | a::l,0,_=>by simp[eszs]
 | a::l,k+1,h=>by
  have ih:=eszs_take (l:=l) (k:=k) (by simpa using h)
  rw[List.take_succ_cons,eszs,ih,List.take_succ_cons,eszs,List.getD_cons_succ]
  omega
theorem eszs_le : ∀{l:List GEx} {k:Nat},eszs (l.take k)≤eszs l
 | [],k=>by simp
 | a::l,0=>by simp[eszs]
 | a::l,k+1=>by
  have ih:=eszs_le (l:=l) (k:=k)
  rw[List.take_succ_cons,eszs,eszs]
  omega
def evz (x:GEx):Nat:=2+eszs (argG x)
theorem evz_le {x:GEx} (h:opG x≠0):evz x≤esz x:=by
 cases x with
 | form f=>exact absurd rfl h
 | scale k a=>simp[evz,argG,esz,eszs]; omega
 | add l=>simp[evz,argG,esz]
 | min l=>simp[evz,argG,esz]
 | max l=>simp[evz,argG,esz]
 | abs a=>simp[evz,argG,esz,eszs]; omega
mutual
theorem esz_le : ∀x:GEx,esz x≤2*bsz x
 | .form f=>by rw[esz,bsz]; omega
 | .scale k a=>by have:=esz_le a; rw[esz,bsz]; omega
 | .add l=>by have:=eszs_le2 l; rw[esz,bsz]; omega
 | .min l=>by have:=eszs_le2 l; rw[esz,bsz]; omega
 | .max l=>by have:=eszs_le2 l; rw[esz,bsz]; omega
 | .abs a=>by have:=esz_le a; rw[esz,bsz]; omega
theorem eszs_le2 : ∀l:List GEx,eszs l≤2*bszs l
 | []=>by rw[eszs]; omega
 | a::l=>by have h1:=esz_le a; have h2:=eszs_le2 l; rw[eszs,bszs]; omega
end
end Go.Proofs.YtdgimcmappmjdaaGreatDoor
set_option maxRecDepth 100000
namespace Go.Proofs.YtdgimcmappmjdaaGreatDoor
open Go.Gx
set_option maxHeartbeats 4000000

def headB (l:List Int):Nat:=(l.headD 0).toNat
def smallZ (n:Nat):Rat:=((((n%13:Nat):Int)-6:Int):Rat)/((2:Int):Rat)
def smallQ (l:List Int):Rat:=smallZ (headB l)
def growF (d:Nat) (l:List Int):LF:=⟨smallQ l,((List.replicate d 0).set (headB (l.drop 1)%d) (smallQ (l.drop 2))).set (headB (l.drop 3)%d) (smallQ (l.drop 4))⟩
def growArgs (g:List Int→Nat→GEx×List Int×Nat):Nat→List Int→Nat→List GEx×List Int×Nat
 | 0,l,c=>([],l,c)
 | n+1,l,c=>((growArgs g n l c).1++[(g (growArgs g n l c).2.1 (growArgs g n l c).2.2).1],(g (growArgs g n l c).2.1 (growArgs g n l c).2.2).2)
def growForm (d:Nat) (l:List Int) (c:Nat):GEx×List Int×Nat:=(.form (growF d (l.drop 1)),l.drop 6,c+1)
def opOf (o:Nat) (l:List GEx):GEx:=if o=1 then .add l else if o=3 then .min l else .max l
def growOp (g:List Int→Nat→GEx×List Int×Nat) (l:List Int) (c:Nat):GEx×List Int×Nat:=
 if headB l%7=2 then (.scale (smallQ (l.drop 1)) ((growArgs g 1 (l.drop 2) (c+1)).1.getD 0 (.add [])),(growArgs g 1 (l.drop 2) (c+1)).2)
 else if headB l%7=5 then (.abs ((growArgs g 1 (l.drop 1) (c+1)).1.getD 0 (.add [])),(growArgs g 1 (l.drop 1) (c+1)).2)
 else (opOf (headB l%7) (growArgs g (1+headB (l.drop 1)%3) (l.drop 2) (c+1)).1,(growArgs g (1+headB (l.drop 1)%3) (l.drop 2) (c+1)).2)
def growE (d:Nat):Nat→List Int→Nat→GEx×List Int×Nat
 | 0,l,c=>growForm d l c
 | L+1,l,c=>if c>20∨headB l%7=0∨headB l%7=6 then growForm d l c else growOp (growE d L) l c
theorem smallZ_fine : ∀n,ab (smallZ n)≤3∧M2 1 (smallZ n):=by
 have h:∀n:Fin 13,ab (((((n.val:Nat):Int)-6:Int):Rat)/((2:Int):Rat))≤3:=by decide +kernel
 intro n
 refine ⟨h ⟨n%13,Nat.mod_lt _ (by decide)⟩,((n%13:Nat):Int)-6,?_⟩
 unfold smallZ
 exact Rat.div_mul_cancel (by decide)
def W3 : Nat→Rat
 | 0=>16
 | L+1=>3*W3 L
def B3 : Nat→Nat
 | 0=>326
 | L+1=>3*B3 L+65
theorem w3_pos : ∀L,16≤W3 L
 | 0=>by unfold W3; grind
 | L+1=>by have:=w3_pos L; rw[W3]; grind
theorem b3_pos : ∀L,326≤B3 L
 | 0=>Nat.le_refl _
 | L+1=>by have:=b3_pos L; rw[B3]; omega
structure GFine (d L:Nat) (x:GEx):Prop where
 over:Over d x
 den:Den (L+1) x
 wt:Go.Gx.wt x≤W3 L
 dep:Go.Gx.dep x≤L+1
 bsz:Go.Proofs.YtdgimcmappmjdaaGreatDoor.bsz x≤B3 L
def K3 : Nat→Rat
 | 0=>0
 | n+1=>3+K3 n
theorem sumAb_k3 : ∀{l:List Rat},(∀r,r∈l→ab r≤3)→sumAb l≤K3 l.length
 | [],_=>by rw[sumAb]; exact Rat.le_refl
 | a::l,h=>by
  have h1:=sumAb_k3 (l:=l) fun r hr=>h r (by simp[hr])
  have h2:=h a (by simp)
  rw[sumAb,List.length_cons,K3]
  grind
theorem growF_mem {d:Nat} {l:List Int} {r:Rat} (h:r∈(growF d l).t):r=0∨∃n,r=smallZ n:=by
 unfold growF at h
 rcases List.mem_or_eq_of_mem_set h with h | h
 ·rcases List.mem_or_eq_of_mem_set h with h | h
  ·exact .inl (List.eq_of_mem_replicate h)
  ·exact .inr ⟨_,h⟩
 ·exact .inr ⟨_,h⟩
theorem growF_len (d:Nat) (l:List Int):(growF d l).t.length=d:=by unfold growF; simp
theorem growF_fine {d:Nat} (hd:d≤4) (l:List Int):LD 1 (growF d l)∧(growF d l).wt≤16:=by
 have h0:ab (0:Rat)≤3:=by unfold ab; grind
 refine ⟨⟨(smallZ_fine _).2,fun r hr=>?_⟩,?_⟩
 ·rcases growF_mem hr with h | ⟨n,h⟩
  ·rw[h]; exact m2_zero 1
  ·rw[h]; exact (smallZ_fine n).2
 ·have h1:=sumAb_k3 (l:=(growF d l).t) fun r hr=>by
   rcases growF_mem hr with h | ⟨n,h⟩
   ·rw[h]; exact h0
   ·rw[h]; exact (smallZ_fine n).1
  rw[growF_len] at h1
  have h2:K3 d≤12:=by
   match d,hd with
   | 0,_=>unfold K3; grind
   | 1,_=>unfold K3 K3; grind
   | 2,_=>unfold K3 K3 K3; grind
   | 3,_=>unfold K3 K3 K3 K3; grind
   | 4,_=>unfold K3 K3 K3 K3 K3; grind
  have h3:ab (growF d l).c≤3:=(smallZ_fine _).1
  unfold LF.wt
  grind
theorem growForm_fine {d:Nat} (hd:d≤4) (L:Nat) (l:List Int) (c:Nat):GFine d L (growForm d l c).1:=by
 unfold growForm
 have h:=growF_fine hd (l.drop 1)
 refine ⟨by rw[Over]; exact growF_len _ _,by rw[Den]; exact (ld_more h.1 L),?_,by rw[Go.Gx.dep]; omega,?_⟩
 ·have:=w3_pos L
  rw[Go.Gx.wt]
  exact Std.le_trans h.2 this
 ·have:=b3_pos L
  rw[Go.Proofs.YtdgimcmappmjdaaGreatDoor.bsz,growF_len]
  omega
theorem growArgs_len (g:List Int→Nat→GEx×List Int×Nat) (l:List Int) (c:Nat):∀n,(growArgs g n l c).1.length=n
 | 0=>rfl
 | n+1=>by rw[growArgs,List.length_append,growArgs_len g l c n]; rfl
theorem growArgs_fine {d L:Nat} {g:List Int→Nat→GEx×List Int×Nat} (hg:∀l c,GFine d L (g l c).1) (l:List Int) (c:Nat):∀n,∀a,a∈(growArgs g n l c).1→GFine d L a
 | 0,a,h=>by simp[growArgs] at h
 | n+1,a,h=>by
  rw[growArgs] at h
  rcases List.mem_append.1 h with h | h
  ·exact growArgs_fine hg l c n a h
  ·rw[List.mem_singleton] at h
   rw[h]
   exact hg _ _
theorem wts_three {l:List GEx} {M:Rat} (hM:0≤M) (hl:l.length≤3) (h:∀a,a∈l→Go.Gx.wt a≤M):wts l≤3*M:=by
 match l,hl with
 | [],_=>rw[wts]; grind
 | [a],_=>have:=h a (by simp); rw[wts,wts]; grind
 | [a,b],_=>have:=h a (by simp); have:=h b (by simp); rw[wts,wts,wts]; grind
 | [a,b,c],_=>have:=h a (by simp); have:=h b (by simp); have:=h c (by simp); rw[wts,wts,wts,wts]; grind
theorem bszs_three {l:List GEx} {M:Nat} (hl:l.length≤3) (h:∀a,a∈l→bsz a≤M):bszs l≤3*(M+1):=by
 match l,hl with
 | [],_=>rw[bszs]; omega
 | [a],_=>have:=h a (by simp); rw[bszs,bszs]; omega
 | [a,b],_=>have:=h a (by simp); have:=h b (by simp); rw[bszs,bszs,bszs]; omega
 | [a,b,c],_=>have:=h a (by simp); have:=h b (by simp); have:=h c (by simp); rw[bszs,bszs,bszs,bszs]; omega
theorem op_fine {d L o:Nat} {l:List GEx} (h0:0<l.length) (hl:l.length≤3) (h:∀a,a∈l→GFine d L a):GFine d (L+1) (opOf o l):=by
 have ac:l≠[]∧Overs d l:=⟨by rintro rfl; simp at h0,Overs_iff.2 fun a ha=>(h a ha).over⟩
 have aa:Dens (L+1+1) l:=Dens_iff.2 fun a ha=>by
  have:=den_more (h a ha).den 1
  rwa[Nat.add_comm] at this
 have hw:wts l≤W3 (L+1):=by
  rw[W3]
  exact wts_three (by have:=w3_pos L; grind) hl fun a ha=>(h a ha).wt
 have hp:deps l≤L+1:=deps_iff.2 fun a ha=>(h a ha).dep
 have hb:2+bszs l≤B3 (L+1):=by
  have:=bszs_three hl fun a ha=>(h a ha).bsz
  rw[B3]
  omega
 unfold opOf
 split
 ·exact ⟨by rw[Over]; exact ac,by rw[Den]; exact aa,by rw[Go.Gx.wt]; exact hw,by rw[Go.Gx.dep]; omega,by rw[Go.Proofs.YtdgimcmappmjdaaGreatDoor.bsz]; exact hb⟩
 ·split
  ·exact ⟨by rw[Over]; exact ac,by rw[Den]; exact aa,by rw[Go.Gx.wt]; exact hw,by rw[Go.Gx.dep]; omega,by rw[Go.Proofs.YtdgimcmappmjdaaGreatDoor.bsz]; exact hb⟩
  ·exact ⟨by rw[Over]; exact ac,by rw[Den]; exact aa,by rw[Go.Gx.wt]; exact hw,by rw[Go.Gx.dep]; omega,by rw[Go.Proofs.YtdgimcmappmjdaaGreatDoor.bsz]; exact hb⟩
theorem one_mem {l:List GEx} (h:l.length=1):l.getD 0 (.add [])∈l:=by
 match l,h with
 | [a],_=>simp
theorem growE_fine {d:Nat} (hd:d≤4):∀(L:Nat) (l:List Int) (c:Nat),GFine d L (growE d L l c).1
 | 0,l,c=>growForm_fine hd 0 l c
 | L+1,l,c=>by
  have ih:=growE_fine hd L
  rw[growE]
  split
  ·exact growForm_fine hd _ l c
  ·unfold growOp
   split
   ·have ha:=growArgs_fine ih (l.drop 2) (c+1) 1 _ (one_mem (growArgs_len _ _ _ 1))
    have hk:=smallZ_fine (headB (l.drop 1))
    refine ⟨by rw[Over]; exact ha.over,by rw[Den]; exact ⟨1,L+1,by omega,hk.2,ha.den⟩,?_,by have:=ha.dep; rw[Go.Gx.dep]; omega,by have:=ha.bsz; have:=b3_pos L; rw[Go.Proofs.YtdgimcmappmjdaaGreatDoor.bsz,B3]; omega⟩
    have h1:=ha.wt
    have h2:=w3_pos L
    have h3:big (smallQ (l.drop 1))≤3:=by
     unfold big mx
     have:=hk.1
     unfold smallQ
     split
     ·grind
     ·exact this
    have h4:=big_one (smallQ (l.drop 1))
    rw[Go.Gx.wt,W3]
    have h5:=Rat.mul_le_mul_of_nonneg_left h1 (show 0≤big (smallQ (l.drop 1)) by grind)
    have h6:=Rat.mul_le_mul_of_nonneg_right h3 (show 0≤W3 L by grind)
    exact Std.le_trans h5 h6
   ·split
    ·have ha:=growArgs_fine ih (l.drop 1) (c+1) 1 _ (one_mem (growArgs_len _ _ _ 1))
     exact ⟨by rw[Over]; exact ha.over,by rw[Den]; have:=den_more ha.den 1; rwa[Nat.add_comm] at this,by have h1:=ha.wt; have:=w3_pos L; rw[Go.Gx.wt,W3]; grind,by have:=ha.dep; rw[Go.Gx.dep]; omega,by have:=ha.bsz; have:=b3_pos L; rw[Go.Proofs.YtdgimcmappmjdaaGreatDoor.bsz,B3]; omega⟩
    ·exact op_fine (by rw[growArgs_len]; omega) (by rw[growArgs_len]; omega) (growArgs_fine ih _ _ _)
theorem grow_lite {d:Nat} {L:Nat} (hL:L≤4) {x:GEx} (h:GFine d L x):Lite x∧bsz x≤30000:=by
 have hB:B3 L≤30000:=by
  rcases (show L=0∨L=1∨L=2∨L=3∨L=4 by omega) with rfl | rfl | rfl | rfl | rfl
  ·show 326≤30000; omega
  ·show 3*326+65≤30000; omega
  ·show 3*(3*326+65)+65≤30000; omega
  ·show 3*(3*(3*326+65)+65)+65≤30000; omega
  ·show 3*(3*(3*(3*326+65)+65)+65)+65≤30000; omega
 have hW:W3 L≤1296:=by
  rcases (show L=0∨L=1∨L=2∨L=3∨L=4 by omega) with rfl | rfl | rfl | rfl | rfl
  ·show (16:Rat)≤1296; grind
  ·show 3*(16:Rat)≤1296; grind
  ·show 3*(3*(16:Rat))≤1296; grind
  ·show 3*(3*(3*(16:Rat)))≤1296; grind
  ·show 3*(3*(3*(3*(16:Rat))))≤1296; grind
 have hw:Go.Gx.wt x≤1296:=Std.le_trans h.wt hW
 have hw2:Go.Gx.wt x≤1099511627776:=Std.le_trans hw (by grind)
 have hd:Den 20 x:=den_most h.den (by omega)
 have hb:bsz x≤30000:=Nat.le_trans h.bsz hB
 unfold Lite
 exact ⟨⟨hd,hw2⟩,hb⟩
mutual
theorem over_upto {m:Nat}:∀{x:GEx},Over m x→UptoG m x
 | .form f,h=>by rw[Over] at h; rw[UptoG]; exact upto_len (by omega)
 | .scale k a,h=>by rw[Over] at h; rw[UptoG]; exact over_upto h
 | .abs a,h=>by rw[Over] at h; rw[UptoG]; exact over_upto h
 | .add l,h=>by rw[Over] at h; rw[UptoG]; exact overs_upto h.2
 | .min l,h=>by rw[Over] at h; rw[UptoG]; exact overs_upto h.2
 | .max l,h=>by rw[Over] at h; rw[UptoG]; exact overs_upto h.2
theorem overs_upto {m:Nat}:∀{l:List GEx},Overs m l→UptoGs m l
 | [],_=>by rw[UptoGs]; trivial
 | a::l,h=>by rw[Overs] at h; rw[UptoGs]; exact ⟨over_upto h.1,overs_upto h.2⟩
end
def argN (l:List Int):Nat:=if headB l%7=2∨headB l%7=5 then 1 else 1+headB (l.drop 1)%3
def argL (l:List Int):List Int:=if headB l%7=5 then l.drop 1 else l.drop 2
def argF (l:List Int):List UInt8:=if headB l%7=2 then numText (smallQ (l.drop 1)) else []
theorem argN_le (l:List Int):argN l≤3:=by unfold argN; split<;>omega
theorem growOp_raw {g:List Int→Nat→GEx×List Int×Nat} {l:List Int} {c:Nat} (h0:headB l%7≠0) (h6:headB l%7≠6) :
  raw (growOp g l c).1=.mk ((headB l%7:Nat):Int) [] [] (argF l) (raws (growArgs g (argN l) (argL l) (c+1)).1)∧(growOp g l c).2=(growArgs g (argN l) (argL l) (c+1)).2:=by
 unfold growOp argN argL argF
 by_cases h2:headB l%7=2
 ·simp only[h2,if_true,true_or,show ¬(2:Nat)=5 by omega,if_false,and_true]
  simp[growArgs,raw,raws]
 ·by_cases h5:headB l%7=5
  ·simp only[h5,if_true,or_true,show ¬(5:Nat)=2 by omega,if_false,and_true]
   simp[growArgs,raw,raws]
  ·simp only[h2,h5,if_false,or_self,and_true]
   unfold opOf
   have hlt:headB l%7<7:=Nat.mod_lt _ (by decide)
   rcases (show headB l%7=1∨headB l%7=3∨headB l%7=4 by omega) with h | h | h
   ·rw[h]; simp[raw]
   ·rw[h]; simp[raw]
   ·rw[h]; simp[raw]
def NN : Nat→Nat
 | 0=>1
 | L+1=>1+3*NN L
theorem growArgs_c {g:List Int→Nat→GEx×List Int×Nat} {M:Nat} (hg:∀l c,(g l c).2.2≤c+M) (l:List Int) (c:Nat):∀n,(growArgs g n l c).2.2≤c+n*M
 | 0=>by rw[growArgs]; show c≤_; omega
 | n+1=>by
  rw[growArgs,Nat.add_mul]
  show (g (growArgs g n l c).2.1 (growArgs g n l c).2.2).2.2≤_
  have h1:=growArgs_c hg l c n
  have h2:=hg (growArgs g n l c).2.1 (growArgs g n l c).2.2
  omega
theorem growE_c {d:Nat}:∀(L:Nat) (l:List Int) (c:Nat),(growE d L l c).2.2≤c+NN L
 | 0,l,c=>by rw[growE,growForm,NN]; exact Nat.le_refl _
 | L+1,l,c=>by
  rw[growE,NN]
  split
  ·rw[growForm]
   show c+1≤_
   omega
  ·next h=>
   simp only[not_or] at h
   rw[(growOp_raw (g:=growE d L) (c:=c) h.2.1 h.2.2).2]
   have h1:=growArgs_c (g:=growE d L) (growE_c L) (argL l) (c+1) (argN l)
   have h2:=Nat.mul_le_mul_right (NN L) (argN_le l)
   omega
end Go.Proofs.YtdgimcmappmjdaaGreatDoor
