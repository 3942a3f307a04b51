/- One more than the greatest dimension that occurs (plain). -/
import Derived.Test.YtdcaaehapdhckaaGreatDoorK1
set_option linter.unusedSimpArgs false
set_option linter.unusedVariables false
set_option maxRecDepth 100000
namespace Go.Proofs.YtdcaaehapdhckaaGreatDoor
open Go.RowKit Go.Num Go.Flow
set_option maxHeartbeats 4000000

def lastT (l:List (Int×List UInt8)):Int:=l.foldl (fun n p=>max n (p.1+1)) 0
mutual
def lastE : Ex→Int
 | .mk _ _ t _ a=>lastA (lastT t) a
def lastA : Int→List Ex→Int
 | n,[]=>n
 | n,x::l=>lastA (max n (lastE x)) l
end
theorem lastT_snoc {l:List (Int×List UInt8)} {k:Nat} (h:k<l.length):lastT (l.take (k+1))=max (lastT (l.take k)) ((l.getD k (0,[])).1+1):=by
 unfold lastT
 rw[List.take_add_one,List.getElem?_eq_getElem h,List.foldl_append,List.getD_eq_getElem?_getD,List.getElem?_eq_getElem h]
 rfl
theorem lastA_append : ∀(n:Int) (l m:List Ex),lastA n (l++m)=lastA (lastA n l) m
 | n,[],m=>by rw[lastA,List.nil_append]
 | n,x::l,m=>by rw[List.cons_append,lastA,lastA,lastA_append]
theorem lastA_snoc {n:Int} {l:List Ex} {k:Nat} (h:k<l.length):lastA n (l.take (k+1))=max (lastA n (l.take k)) (lastE (l.getD k Ex.none)):=by
 rw[List.take_add_one,List.getElem?_eq_getElem h,lastA_append,List.getD_eq_getElem?_getD,List.getElem?_eq_getElem h]
 rw[show (some l[k]).toList = [l[k]] from rfl,lastA,lastA]
 rfl
theorem lastE_eq (x:Ex):lastE x=lastA (lastT x.t) x.a:=by
 cases x
 rw[lastE]
 rfl
theorem lastT_pos (l:List (Int×List UInt8)):0≤lastT l:=by
 unfold lastT
 have h:∀(l:List (Int×List UInt8)) (n:Int),0≤n→0≤l.foldl (fun n p=>max n (p.1+1)) n:=by
  intro l
  induction l with
  | nil=>exact fun n h=>h
  | cons p l ih=>exact fun n h=>ih _ (show 0≤max n (p.1+1) by omega)
 exact h l 0 (Int.le_refl _)
end Go.Proofs.YtdcaaehapdhckaaGreatDoor
set_option maxRecDepth 100000
namespace Go.Proofs.YtdcaaehapdhckaaGreatDoor
open Go.RowKit Go.Num Go.Flow
open Go.Gx (LF GEx)
set_option maxHeartbeats 4000000

theorem uptos_of {m:Nat}:∀{l:List GEx},(∀j,j<l.length→UptoG m (l.getD j (.add [])))→UptoGs m l
 | [],_=>by rw[UptoGs]; trivial
 | a::l,h=>by
  rw[UptoGs]
  exact ⟨h 0 (by simp),uptos_of fun j hj=>h (j+1) (by simpa using hj)⟩
theorem arg_upto_of {m:Nat} {x:GEx} (h0:opG x≠0) (h:∀j,j<(argG x).length→UptoG m ((argG x).getD j (.add []))):UptoG m x:=by
 cases x with
 | form f=>exact absurd rfl h0
 | scale k a=>rw[UptoG]; exact h 0 (by simp[argG])
 | add l=>rw[UptoG]; exact uptos_of h
 | min l=>rw[UptoG]; exact uptos_of h
 | max l=>rw[UptoG]; exact uptos_of h
 | abs a=>rw[UptoG]; exact h 0 (by simp[argG])
theorem foldT_le {m:Int}:∀(l:List (Int×List UInt8)) (n:Int),l.foldl (fun n p=>max n (p.1+1)) n≤m↔n≤m∧∀p,p∈l→p.1+1≤m
 | [],n=>by simp
 | p::l,n=>by
  rw[List.foldl_cons,foldT_le l]
  constructor
  ·rintro ⟨h1,h2⟩
   refine ⟨by omega,fun q hq=>?_⟩
   rcases List.mem_cons.1 hq with rfl | hq
   ·omega
   ·exact h2 q hq
  ·rintro ⟨h1,h2⟩
   have h3:=h2 p (by simp)
   exact ⟨by omega,fun q hq=>h2 q (by simp[hq])⟩
theorem lastT_le {m:Int} (hm:0≤m) (l:List (Int×List UInt8)):lastT l≤m↔∀p,p∈l→p.1+1≤m:=by
 unfold lastT
 rw[foldT_le]
 exact ⟨fun h=>h.2,fun h=>⟨hm,h⟩⟩
theorem lastA_le {m:Int}:∀{n:Int} {l:List Ex},lastA n l≤m↔n≤m∧∀x,x∈l→lastE x≤m
 | n,[]=>by rw[lastA]; simp
 | n,x::l=>by
  rw[lastA,lastA_le]
  constructor
  ·rintro ⟨h1,h2⟩
   refine ⟨by omega,fun q hq=>?_⟩
   rcases List.mem_cons.1 hq with rfl | hq
   ·omega
   ·exact h2 q hq
  ·rintro ⟨h1,h2⟩
   have h3:=h2 x (by simp)
   exact ⟨by omega,fun q hq=>h2 q (by simp[hq])⟩
mutual
theorem last_upto (m:Nat):∀x:GEx,lastE (raw x)≤(m:Int)↔UptoG m x
 | .form f=>by
  rw[raw,lastE,lastA,lastT_le (by omega),UptoG,upto_terms]
  unfold zTerms
  constructor
  ·intro h p hp
   have:=h ((p.1:Int),p.2) (List.mem_map.2 ⟨p,hp,rfl⟩)
   simp only at this
   omega
  ·intro h q hq
   obtain ⟨p,hp,rfl⟩:=List.mem_map.1 hq
   have:=h p hp
   simp only
   omega
 | .scale k a=>by
  rw[raw,lastE,lastA_le,UptoG,←last_upto m a]
  constructor
  ·rintro ⟨-,h⟩
   exact h _ (by simp)
  ·intro h
   refine ⟨by unfold lastT; simp,fun x hx=>?_⟩
   obtain rfl:x=raw a:=by simpa using hx
   exact h
 | .add l=>by
  rw[raw,lastE,lastA_le,UptoG,←lasts_upto m l]
  exact ⟨fun h=>h.2,fun h=>⟨by unfold lastT; simp,h⟩⟩
 | .min l=>by
  rw[raw,lastE,lastA_le,UptoG,←lasts_upto m l]
  exact ⟨fun h=>h.2,fun h=>⟨by unfold lastT; simp,h⟩⟩
 | .max l=>by
  rw[raw,lastE,lastA_le,UptoG,←lasts_upto m l]
  exact ⟨fun h=>h.2,fun h=>⟨by unfold lastT; simp,h⟩⟩
 | .abs a=>by
  rw[raw,lastE,lastA_le,UptoG,←last_upto m a]
  constructor
  ·rintro ⟨-,h⟩
   exact h _ (by simp)
  ·intro h
   refine ⟨by unfold lastT; simp,fun x hx=>?_⟩
   obtain rfl:x=raw a:=by simpa using hx
   exact h
theorem lasts_upto (m:Nat):∀l:List GEx,(∀x,x∈raws l→lastE x≤(m:Int))↔UptoGs m l
 | []=>by rw[raws,UptoGs]; simp
 | a::l=>by
  rw[raws,UptoGs,←last_upto m a,←lasts_upto m l]
  constructor
  ·intro h
   exact ⟨h _ (by simp),fun x hx=>h x (by simp[hx])⟩
  ·rintro ⟨h1,h2⟩ x hx
   rcases List.mem_cons.1 hx with rfl | hx
   ·exact h1
   ·exact h2 x hx
end
theorem lastE_pos (x:GEx):0≤lastE (raw x):=by
 rcases Int.lt_or_le (lastE (raw x)) 0 with h | h
 ·have h1:∀(n:Int) (l:List Ex),n≤lastA n l:=by
   intro n l
   induction l generalizing n with
   | nil=>rw[lastA]; exact Int.le_refl _
   | cons a l ih=>rw[lastA]; have:=ih (max n (lastE a)); omega
  have h2:=h1 (lastT (raw x).t) (raw x).a
  have h3:=lastT_pos (raw x).t
  rw[lastE_eq] at h⊢
  omega
 ·exact h
theorem upto_short {f:LF} {m:Nat} (h:¬Upto m f):∃j,j<(formTexts f).length∧m≤((formTexts f).getD j (0,[])).1:=by
 rw[upto_terms] at h
 simp only[Classical.not_forall] at h
 obtain ⟨p,hp,hl⟩:=h
 obtain ⟨j,hj,rfl⟩:=List.getElem_of_mem hp
 refine ⟨j,hj,?_⟩
 rw[List.getD_eq_getElem?_getD,List.getElem?_eq_getElem hj]
 simp only[Option.getD_some]
 omega
end Go.Proofs.YtdcaaehapdhckaaGreatDoor
