/- A digit of a quotient is guessed from the first digits. No program stands here. -/
import Derived.Test.YtdcaaehapdhckaaGreatDoorKA
import Derived.Test.YtdcaaehapdhckaaGreatDoorShelf
import Derived.Laws.OwnMore
import Derived.Deep.AppendLies
import Derived.Deep.QuietTactic
import Derived.BigQuiet
import Derived.Lib.ItoaNum
import Derived.Deep.LoopGhost
set_option linter.unusedSimpArgs false
set_option linter.unusedVariables false
set_option maxRecDepth 100000
namespace Go.Num

structure Top (U V P h u2 v1 v2:Nat):Prop where
 lo:∃lu,lu<P∧U=(h*4294967296+u2)*P+lu
 lv:∃lv,lv<P∧V=(v1*4294967296+v2)*P+lv
 p:0<P
 big:2147483648≤v1
 v2:v2<4294967296
 u2:u2<4294967296
 lt:U<4294967296*V
structure Guess (U V h v1 q rest:Nat):Prop where
 sum:q*v1+rest=h
 ge:U<(q+1)*V
section
variable {U V P h u2 v1 v2 q rest:Nat}
theorem Top.vpos (t:Top U V P h u2 v1 v2):0<V:=by
 obtain ⟨lv,h1,h2⟩:=t.lv
 have h3:=Nat.mul_le_mul (show 1≤v1*4294967296+v2 by have:=t.big; omega) t.p
 omega
theorem Top.first (t:Top U V P h u2 v1 v2):Guess U V h v1 (h/v1) (h%v1):=by
 have hv:=t.big
 refine ⟨by rw[Nat.mul_comm]; exact Nat.div_add_mod h v1,?_⟩
 obtain ⟨lu,h1,h2⟩:=t.lo
 obtain ⟨lv,h3,h4⟩:=t.lv
 have h5:h<(h/v1+1)*v1:=by
  have a:=Nat.div_add_mod h v1
  have b:=Nat.mod_lt h (show 0<v1 by omega)
  rw[Nat.mul_comm] at a
  rw[Nat.add_mul,Nat.one_mul]
  generalize h/v1*v1=x at *
  omega
 have h6:(h+1)*(4294967296*P)≤(h/v1+1)*v1*(4294967296*P):=Nat.mul_le_mul_right _ h5
 have h7:U<(h+1)*(4294967296*P):=by
  have a:(h*4294967296+u2+1)*P≤((h+1)*4294967296)*P:=Nat.mul_le_mul_right _ (by have:=t.u2; omega)
  rw[Nat.add_mul,Nat.one_mul] at a
  rw[←Nat.mul_assoc]
  omega
 have h8:v1*(4294967296*P)≤V:=by
  have a:v1*4294967296*P≤(v1*4294967296+v2)*P:=Nat.mul_le_mul_right _ (by omega)
  rw[←Nat.mul_assoc]
  omega
 have h9:(h/v1+1)*v1*(4294967296*P)≤(h/v1+1)*V:=by
  rw[Nat.mul_assoc]
  exact Nat.mul_le_mul_left _ h8
 omega
theorem Guess.less (t:Top U V P h u2 v1 v2) (g:Guess U V h v1 q rest) (hq:4294967296≤q):Guess U V h v1 (q-1) (rest+v1):=by
 refine ⟨?_,?_⟩
 ·have h1:=g.sum
  obtain ⟨k,rfl⟩:∃k,q=k+1:=⟨q-1,by omega⟩
  rw[Nat.add_sub_cancel]
  rw[Nat.add_mul,Nat.one_mul] at h1
  omega
 ·have h1:=t.lt
  have h2:4294967296*V≤(q-1+1)*V:=Nat.mul_le_mul_right _ (by omega)
  omega
theorem Guess.less2 (t:Top U V P h u2 v1 v2) (g:Guess U V h v1 q rest) (hq:rest*4294967296+u2<q*v2):Guess U V h v1 (q-1) (rest+v1):=by
 obtain ⟨k,rfl⟩:∃k,q=k+1:=⟨q-1,by rcases Nat.eq_zero_or_pos q with rfl | h0<;>omega⟩
 have h1:=g.sum
 rw[Nat.add_sub_cancel]
 refine ⟨by rw[Nat.add_mul,Nat.one_mul] at h1; omega,?_⟩
 obtain ⟨lu,a1,a2⟩:=t.lo
 obtain ⟨lv,a3,a4⟩:=t.lv
 have h2:h*4294967296+u2+1≤(k+1)*(v1*4294967296+v2):=by
  have e:(k+1)*(v1*4294967296+v2)=(k+1)*v1*4294967296+(k+1)*v2:=by rw[Nat.mul_add,Nat.mul_assoc]
  rw[e]
  generalize (k+1)*v1=x at *
  generalize (k+1)*v2=y at *
  omega
 have h3:(h*4294967296+u2+1)*P≤(k+1)*(v1*4294967296+v2)*P:=Nat.mul_le_mul_right _ h2
 have h4:(k+1)*(v1*4294967296+v2)*P≤(k+1)*V:=by
  rw[Nat.mul_assoc,a4]
  exact Nat.mul_le_mul_left _ (Nat.le_add_right _ _)
 rw[Nat.add_mul,Nat.one_mul] at h3
 omega
theorem Guess.near (t:Top U V P h u2 v1 v2) (g:Guess U V h v1 q rest) (hq:q≤4294967296) (he:4294967296≤rest∨(q<4294967296∧q*v2≤rest*4294967296+u2)):q*V<U+V:=by
 have h1:=g.sum
 obtain ⟨lu,a1,a2⟩:=t.lo
 obtain ⟨lv,a3,a4⟩:=t.lv
 have hv:=t.vpos
 rcases he with he | ⟨he1,he2⟩
 ·have b1:V≤(v1+1)*(4294967296*P):=by
   have a:(v1*4294967296+v2+1)*P≤((v1+1)*4294967296)*P:=Nat.mul_le_mul_right _ (by have:=t.v2; omega)
   rw[Nat.add_mul,Nat.one_mul] at a
   rw[←Nat.mul_assoc]
   omega
  have b2:q*V≤q*((v1+1)*(4294967296*P)):=Nat.mul_le_mul_left _ b1
  have b3:q*(v1+1)≤h:=by rw[Nat.mul_add,Nat.mul_one]; omega
  have b4:q*(v1+1)*(4294967296*P)≤h*(4294967296*P):=Nat.mul_le_mul_right _ b3
  have b5:h*(4294967296*P)≤U:=by
   have a:h*4294967296*P≤(h*4294967296+u2)*P:=Nat.mul_le_mul_right _ (Nat.le_add_right _ _)
   rw[←Nat.mul_assoc,a2]
   exact Nat.le_trans a (Nat.le_add_right _ _)
  rw[←Nat.mul_assoc] at b2
  omega
 ·have b1:V≤(v1*4294967296+v2+1)*P:=by rw[Nat.add_mul,Nat.one_mul]; omega
  have b2:q*V≤q*((v1*4294967296+v2+1)*P):=Nat.mul_le_mul_left _ b1
  have b3:q*(v1*4294967296+v2+1)≤h*4294967296+u2+4294967296:=by
   have e:q*(v1*4294967296+v2+1)=q*v1*4294967296+q*v2+q:=by rw[Nat.mul_add,Nat.mul_add,Nat.mul_assoc,Nat.mul_one]
   rw[e]
   generalize q*v1=x at *
   generalize q*v2=y at *
   omega
  have b4:q*(v1*4294967296+v2+1)*P≤(h*4294967296+u2+4294967296)*P:=Nat.mul_le_mul_right _ b3
  have b5:4294967296*P<V:=by
   have a:(1*4294967296+1)*P≤(v1*4294967296+v2)*P:=Nat.mul_le_mul_right _ (by have:=t.big; omega)
   rw[Nat.add_mul,Nat.one_mul] at a
   have:=t.p
   omega
  rw[←Nat.mul_assoc] at b2
  rw[Nat.add_mul (h*4294967296+u2) 4294967296 P] at b4
  omega
theorem Top.small (t:Top U V P h u2 v1 v2):h/v1≤4294967297:=by
 have hv:=t.big
 obtain ⟨lu,a1,a2⟩:=t.lo
 obtain ⟨lv,a3,a4⟩:=t.lv
 have h1:=t.lt
 have h2:h<(v1+1)*4294967296:=by
  rcases Nat.lt_or_ge h ((v1+1)*4294967296) with h3 | h3
  ·exact h3
  ·exfalso
   have b1:V≤(v1+1)*(4294967296*P):=by
    have a:(v1*4294967296+v2+1)*P≤((v1+1)*4294967296)*P:=Nat.mul_le_mul_right _ (by have:=t.v2; omega)
    rw[Nat.add_mul,Nat.one_mul] at a
    rw[←Nat.mul_assoc]
    omega
   have b2:4294967296*V≤4294967296*((v1+1)*(4294967296*P)):=Nat.mul_le_mul_left _ b1
   have b3:(v1+1)*4294967296*(4294967296*P)≤h*(4294967296*P):=Nat.mul_le_mul_right _ h3
   have b4:h*(4294967296*P)≤U:=by
    have a:h*4294967296*P≤(h*4294967296+u2)*P:=Nat.mul_le_mul_right _ (Nat.le_add_right _ _)
    rw[←Nat.mul_assoc,a2]
    exact Nat.le_trans a (Nat.le_add_right _ _)
   have e:4294967296*((v1+1)*(4294967296*P))=(v1+1)*4294967296*(4294967296*P):=by rw[←Nat.mul_assoc,Nat.mul_comm 4294967296 (v1+1)]
   omega
 have h4:h/v1<4294967298:=by
  rw[Nat.div_lt_iff_lt_mul (by omega)]
  omega
 omega
end
theorem sub_step {s u v:List Nat} {k q c b lo c2 b2 x:Nat} (hk:k<s.length) (h:val (s.take k)+q*val (v.take k)=val (u.take k)+pw k*(c+b)) (hc:c+q*v.getD k 0=lo+4294967296*c2) (hx:x+b+lo=u.getD k 0+4294967296*b2) :
  val ((s.set k x).take (k+1))+q*val (v.take (k+1))=val (u.take (k+1))+pw (k+1)*(c2+b2):=by
 rw[set_val hk,take_step u,take_step v,Nat.mul_add]
 have e1:pw (k+1)*(c2+b2)=pw k*(4294967296*c2+4294967296*b2):=by
  simp only[pw]
  rw[Nat.mul_comm 4294967296 (pw k),Nat.mul_assoc,Nat.mul_add]
 have e2:q*(pw k*v.getD k 0)=pw k*(q*v.getD k 0):=by rw[Nat.mul_left_comm]
 rw[e1,e2]
 have e3:pw k*x+pw k*(q*v.getD k 0)+pw k*(c+b)=pw k*u.getD k 0+pw k*(4294967296*c2+4294967296*b2):=by
  rw[←Nat.mul_add,←Nat.mul_add,←Nat.mul_add]
  congr 1
  omega
 omega
theorem carry_less {c q d:Nat} (hd:d<4294967296) (hc:c<q∨c=0):((c+q*d)/4294967296<q∨(c+q*d)/4294967296=0):=by
 rcases Nat.eq_zero_or_pos q with rfl | h0
 ·right
  simp only[Nat.zero_mul,Nat.add_zero]
  omega
 ·left
  have h1:q*d+q≤q*4294967296:=by
   have:q*(d+1)≤q*4294967296:=Nat.mul_le_mul_left _ hd
   rw[Nat.mul_add,Nat.mul_one] at this
   exact this
  exact Nat.div_lt_of_lt_mul (by rw[Nat.mul_comm 4294967296 q]; omega)
theorem carry_fits {c q d:Nat} (hd:d<4294967296) (hq:q≤4294967296) (hc:c<q∨c=0):c+q*d<18446744073709551616∧q*d<18446744073709551616:=by
 have h1:q*d≤4294967296*4294967295:=Nat.mul_le_mul hq (by omega)
 have h2:q*d+q≤q*4294967296:=by
  have:q*(d+1)≤q*4294967296:=Nat.mul_le_mul_left _ hd
  rw[Nat.mul_add,Nat.mul_one] at this
  exact this
 have h3:q*4294967296≤4294967296*4294967296:=Nat.mul_le_mul_right _ hq
 omega
theorem back_step {s u v:List Nat} {k c:Nat} (hk:k<s.length) (h:val (s.take k)+pw k*c=val (u.take k)+val (v.take k)) :
  val ((s.set k ((c+(u.getD k 0+v.getD k 0))%4294967296)).take (k+1))+pw (k+1)*((c+(u.getD k 0+v.getD k 0))/4294967296)=val (u.take (k+1))+val (v.take (k+1)):=by
 rw[←Nat.add_assoc]
 exact plus_step hk h
theorem sub_right {U V P a q cb un t:Nat} (h:a+q*V=cb*P+(U-un*P)) (hU:un*P≤U) (ht:t+cb=un) (hge:U<(q+1)*V):U=q*V+(a+P*t)∧a+P*t<V:=by
 have e:P*t+cb*P=un*P:=by rw[Nat.mul_comm P t,←Nat.add_mul,ht]
 rw[Nat.add_mul,Nat.one_mul] at hge
 omega
theorem sub_wrong {U V P a q cb un:Nat} (h:a+q*V=cb*P+(U-un*P)) (hU:un*P≤U) (ht:un<cb) (hV:V≤P) (ha:a<P) (hnear:q*V<U+V):cb=un+1∧0<q∧P≤a+V∧U=(q-1)*V+(a+V-P)∧a+V-P<V:=by
 have hq:0<q:=by
  rcases Nat.eq_zero_or_pos q with rfl | h0
  ·have h1:(un+1)*P≤cb*P:=Nat.mul_le_mul_right _ ht
   rw[Nat.add_mul,Nat.one_mul] at h1
   rw[Nat.zero_mul] at h
   omega
  ·exact h0
 obtain ⟨r,rfl⟩:∃r,q=r+1:=⟨q-1,by omega⟩
 rw[Nat.add_sub_cancel]
 rw[Nat.add_mul,Nat.one_mul] at h hnear
 obtain ⟨m,rfl⟩:∃m,cb=un+1+m:=⟨cb-un-1,by omega⟩
 have hm:m=0:=by
  rcases Nat.eq_zero_or_pos m with h0 | h0
  ·exact h0
  ·exfalso
   have h1:1*P≤m*P:=Nat.mul_le_mul_right _ h0
   rw[Nat.add_mul,Nat.add_mul,Nat.one_mul] at h
   omega
 subst hm
 rw[Nat.add_zero,Nat.add_mul,Nat.one_mul] at h
 omega
theorem lower_step {o a:List Nat} {k s:Nat} (hk:k<o.length) (hs:s<32) (h:2^s*val (o.take k)+a.getD 0 0%2^s=val (a.take k)+pw k*(a.getD k 0%2^s)) :
  2^s*val ((o.set k (a.getD k 0/2^s+2^(32-s)*(a.getD (k+1) 0%2^s))).take (k+1))+a.getD 0 0%2^s=val (a.take (k+1))+pw (k+1)*(a.getD (k+1) 0%2^s):=by
 rw[set_val hk,take_step a]
 have e0:(4294967296:Nat)=2^s*2^(32-s):=by rw[←Nat.pow_add,show s+(32-s)=32 by omega]
 have e1:pw (k+1)*(a.getD (k+1) 0%2^s)=pw k*(4294967296*(a.getD (k+1) 0%2^s)):=by
  simp only[pw]
  rw[Nat.mul_comm 4294967296 (pw k),Nat.mul_assoc]
 have e2:2^s*(pw k*(a.getD k 0/2^s+2^(32-s)*(a.getD (k+1) 0%2^s)))=pw k*(2^s*(a.getD k 0/2^s))+pw k*(4294967296*(a.getD (k+1) 0%2^s)):=by
  rw[Nat.mul_left_comm,Nat.mul_add (2^s),←Nat.mul_assoc (2^s) (2^(32-s)),←e0,Nat.mul_add]
 have e3:pw k*a.getD k 0=pw k*(2^s*(a.getD k 0/2^s))+pw k*(a.getD k 0%2^s):=by rw[←Nat.mul_add,Nat.div_add_mod]
 rw[Nat.mul_add,e2,e1,e3]
 omega
theorem lower_fits {x y s:Nat} (hx:x<4294967296) (hs:s<32):x/2^s<2^(32-s)∧x/2^s+2^(32-s)*(y%2^s)<4294967296:=by
 have e0:(4294967296:Nat)=2^s*2^(32-s):=by rw[←Nat.pow_add,show s+(32-s)=32 by omega]
 have h1:x/2^s<2^(32-s):=Nat.div_lt_of_lt_mul (by rw[←e0]; exact hx)
 refine ⟨h1,?_⟩
 have h2:y%2^s<2^s:=Nat.mod_lt _ (Nat.pow_pos (by omega))
 have h3:2^(32-s)*(y%2^s+1)≤2^(32-s)*2^s:=Nat.mul_le_mul_left _ h2
 rw[Nat.mul_comm _ (2^s),←e0,Nat.mul_add,Nat.mul_one] at h3
 omega
theorem lower_high {y s:Nat} (hs:s<32):y*4294967296/2^s%4294967296=2^(32-s)*(y%2^s):=by
 have e0:(4294967296:Nat)=2^s*2^(32-s):=by rw[←Nat.pow_add,show s+(32-s)=32 by omega]
 have e1:y*4294967296/2^s=2^(32-s)*y:=by
  rw[e0,Nat.mul_left_comm,Nat.mul_div_cancel_left _ (Nat.pow_pos (by omega)),Nat.mul_comm]
 rw[e1]
 conv=>lhs; rw[e0,Nat.mul_comm (2^s)]
 rw[Nat.mul_mod_mul_left]
theorem lower_end {o a:List Nat} {s q:Nat} (h:2^s*val o+a.getD 0 0%2^s=val a) (hd:val a=2^s*q):val o=q:=by
 have h1:a.getD 0 0%2^s<2^s:=Nat.mod_lt _ (Nat.pow_pos (by omega))
 have hp:0<2^s:=Nat.pow_pos (by omega)
 have h2:(2^s*val o+a.getD 0 0%2^s)/2^s=val o:=by rw[Nat.mul_add_div hp,Nat.div_eq_of_lt h1,Nat.add_zero]
 rw[h,hd,Nat.mul_div_cancel_left _ hp] at h2
 exact h2.symm
theorem drop_set_at {o:List Nat} (i k x:Nat):(o.set (i+k) x).drop i=(o.drop i).set k x:=by
 rw[List.drop_set]
 rw[if_neg (by omega),show i+k-i=k by omega]
theorem take_set_at {o:List Nat} (i k x:Nat):(o.set (i+k) x).take i=o.take i:=by rw[List.take_set,List.set_eq_of_length_le (by rw[List.length_take]; omega)]
theorem getD_drop (o:List Nat) (i k:Nat):(o.drop i).getD k 0=o.getD (i+k) 0:=by simp[List.getD_eq_getElem?_getD]
end Go.Num
set_option maxRecDepth 100000
namespace Go.Proofs.YtdcaaehapdhckaaGreatDoor
open Go.RowKit Go.Num
set_option maxHeartbeats 4000000

def OwnDig (w:World) (g cap:Nat) (o:List Nat):Prop:=w.ownsRow 0 145 1 (.slice (some ⟨g,0,none⟩) o.length cap) o.length (o.map u32V)
theorem OwnDig.at {w:World} {g cap:Nat} {o:List Nat} (h:OwnDig w g cap o) {i:Nat} (hi:i<o.length):w.cell? ⟨g,i,none⟩=some (u32V (o.getD i 0)):=by
 rw[World.ownsRow.cellAt h i (by omega)]
 simp[List.getD_eq_getElem?_getD,hi]
theorem OwnDig.free {w:World} {g cap:Nat} {o:List Nat} (h:OwnDig w g cap o) (i:Nat):w.frozen? ⟨g,i,none⟩=false:=World.ownsRow.frozenAt h i
theorem OwnDig.set {w:World} {g cap:Nat} {o:List Nat} (h:OwnDig w g cap o) (i d:Nat):OwnDig (w.setCell ⟨g,i,none⟩ (u32V d)) g cap (o.set i d):=by
 have h1:=(World.ownsRow.stored h i (u32V d)).1
 unfold OwnDig
 rw[List.length_set,List.map_set]
 exact h1
theorem OwnDig.drew {w:World} {g cap:Nat} {o:List Nat} (h:OwnDig w g cap o):OwnDig w.drew g cap o:=h
theorem OwnDig.lt {w:World} {g cap:Nat} {o:List Nat} (h:OwnDig w g cap o):g<w.heap.size:=(World.ownsRow.lt h g rfl).2
theorem OwnDig.cap {w:World} {g cap:Nat} {o:List Nat} (h:OwnDig w g cap o):o.length≤cap∧cap≤maxLen:=by
 rcases h.2 with ⟨h',_⟩ | ⟨g',cap',cur,h',_,_,h1,h2,_⟩
 ·simp at h'
 ·simp only[Value.slice.injEq,Option.some.injEq,Addr.mk.injEq,and_true,true_and] at h'
  rw[h'.2]
  exact ⟨h1,h2⟩
theorem OwnDig.mag {w:World} {g cap:Nat} {o:List Nat} (h:OwnDig w g cap o) (ho:Ok o):MagIn w (.slice (some ⟨g,0,none⟩) o.length cap) o:=
 ⟨_,_,rfl,h.cap.1,h.cap.2,ho,fun _=>⟨g,0,rfl,h.lt,fun j hj=>by rw[Nat.zero_add]; exact h.at hj⟩⟩
theorem clone_dig {w:World} {b off c:Nat} {a:List Nat} (ha:MagIn w (.slice (some ⟨b,off,none⟩) a.length c) a) (hk:a.length≤1000000) :
  Calls Tryz.prog 225 #[.slice (some ⟨b,off,none⟩) a.length c] w fun e w'=>∃g cap,e=.returned (.slice (some ⟨g,0,none⟩) a.length cap)∧w.heap.size≤g∧OwnDig w' g cap a∧Below w.heap.size w w':=by
 obtain ⟨i0,hi,hz0,hz1,hz2⟩:=info_parts infoU32
 have hc:∀j u,(a.map u32V)[j]?=some u→w.cell? ⟨b,off+j,none⟩=some u:=fun j u hu=>by
  rw[List.getElem?_map] at hu
  obtain ⟨d,hd,rfl⟩:=Option.map_eq_some_iff.1 hu
  have hj:=(List.getElem?_eq_some_iff.1 hd).1
  obtain ⟨_,_,e,_,_,_,h4⟩:=ha
  simp only[Value.slice.injEq,true_and] at e
  obtain ⟨rfl,rfl⟩:=e
  obtain ⟨b',off',e2,hlt,hcl⟩:=h4 (by omega)
  simp only[Option.some.injEq,Addr.mk.injEq,and_true] at e2
  obtain ⟨rfl,rfl⟩:=e2
  rw[hcl j hj,List.getD_eq_getElem?_getD,hd]
  rfl
 refine (Tryz.slices_Clone i0 (.int .u32 0) 1 4 hi hz0 hz1 hz2 rfl (by decide) (fun _=>by kernel_rfl) b off a.length c (a.map u32V) w (by simp) (by unfold maxLen; omega) (by omega) hc (fun u hu=>?_)).mono ?_
 ·obtain ⟨d,_,rfl⟩:=List.mem_map.1 hu
  rfl
 ·rintro e w' ⟨v',rfl,ho,hne,hb⟩
  rcases ho.2 with ⟨h0,_⟩ | ⟨g,cap,cur,hv,hg,hh,h1,h2,h3,h4⟩
  ·exact absurd h0 hne
  ·exact ⟨g,cap,by rw[hv],hg,⟨by simp,.inr ⟨g,cap,cur,rfl,Nat.zero_le _,hh,h1,h2,h3,h4⟩⟩,hb⟩
theorem u32_or_low {x y s:Nat} (hx:x<4294967296) (hs:s<32):bits .or .u32 ((x:Int)/2^s) (((y:Int)*4294967296)/2^s%4294967296)=((x/2^s+2^(32-s)*(y%2^s):Nat):Int):=by
 obtain ⟨h1,h2⟩:=lower_fits (y:=y) hx hs
 have e1:(x:Int)/2^s=((x/2^s:Nat):Int):=by simp
 have e2:((y:Int)*4294967296)/2^s%4294967296=((2^(32-s)*(y%2^s):Nat):Int):=by rw[←lower_high hs]; simp
 rw[e1,e2]
 have h3:x/2^s ||| 2^(32-s)*(y%2^s)=x/2^s+2^(32-s)*(y%2^s):=by rw[Nat.or_comm,←Nat.two_pow_add_eq_or_of_lt h1,Nat.add_comm]
 have h4:2^(32-s)*(y%2^s)<4294967296:=by omega
 have h5:x/2^s<4294967296:=by omega
 generalize 2^(32-s)*(y%2^s)=b at *
 generalize x/2^s=a at *
 show IntKind.u32.wrap ((BitVec.ofInt 32 (a:Int) ||| BitVec.ofInt 32 (b:Int)).toNat:Int)=_
 rw[BitVec.toNat_or,ofInt_u32 _ h5,ofInt_u32 _ h4,h3,IntKind.wrap_u32]
 omega
theorem lowered_any {w:World} {b off c:Nat} {a:List Nat} {s q:Nat} (ha:MagIn w (.slice (some ⟨b,off,none⟩) a.length c) a) (hk:a.length≤1000000) (hs:s<32) (hd:val a=2^s*q) :
  Calls Tryz.prog 203 #[.slice (some ⟨b,off,none⟩) a.length c,.int .i64 s] w fun e w'=>∃v r,e=.returned v∧MagIn w' v r∧Norm r∧val r=q∧r.length≤a.length∧Below w.heap.size w w':=by
 have HC:=ZH (clone_dig ha hk)
 obtain ⟨_,_,e0,hc1,hc2,oa,hca⟩:=ha
 simp only[Value.slice.injEq,true_and] at e0
 obtain ⟨rfl,rfl⟩:=e0
 have HA:=ZH (show ∀j,j<a.length→b<w.heap.size∧w.cell? ⟨b,off+j,none⟩=some (u32V (a.getD j 0)) from fun j hj=>by
  obtain ⟨b',off',e2,hlt,hcl⟩:=hca (by omega)
  simp only[Option.some.injEq,Addr.mk.injEq,and_true] at e2
  obtain ⟨rfl,rfl⟩:=e2
  exact ⟨hlt,hcl j hj⟩)
 have HOA:=ZH oa
 have HD:=ZH hd
 unfold maxLen at hc2
 obtain ⟨N,hN⟩:∃N,N=a.length:=⟨_,rfl⟩
 rw[←hN] at hc1 HA HC hk⊢
 have HN:=ZH hN
 clear hca oa hN hd
 go_enter Tryz.func203,Tryz.ntmps203
 go_wp2_with fail
 refine HC.out.mono ?_
 rintro e w1 ⟨g,cap,rfl,hg,ho1,hb1⟩
 have HG:=ZH hg
 have H1:=ZH (ZN ho1 hb1)
 clear hg ho1 hb1 HC
 go_wp2_with fail
 go_loopw [11] (fun i wr=>∃(k:Nat) (o:List Nat),k≤N∧i=.int .i64 k∧Hid (o.length=N∧OwnDig wr g cap o∧Ok o∧o.drop k=a.drop k∧2^s*val (o.take k)+a.getD 0 0%2^s=val (a.take k)+pw k*(a.getD k 0%2^s))∧Hid (Below w.heap.size w wr)) (fun i _=>N-(intOf i).toNat)
 case atStart=>exact ⟨0,a,Nat.zero_le _,rfl,ZH ⟨HN.out.symm,H1.out.1,HOA.out,rfl,by simp[val,pw]⟩,ZH H1.out.2⟩
 case round=>
  obtain ⟨k,o,hkN,rfl,ho,hbw⟩:=hrel
  by_cases hlt:k<N
  ·obtain ⟨da,hda⟩:∃d,d=a.getD k 0:=⟨_,rfl⟩
   have hda2:da<4294967296:=by rw[hda]; exact HOA.out.at k
   have g0:=ho.out.2.1.at (i:=k) (by rw[ho.out.1]; exact hlt)
   have e0:o.getD k 0=a.getD k 0:=by
    have:=congrArg (fun l=>l.getD 0 0) ho.out.2.2.2.1
    simpa[List.getD_eq_getElem?_getD] using this
   rw[e0,←hda] at g0
   unfold u32V at g0
   have g1:=ho.out.2.1.free k
   have HDA:=ZH hda
   have hi0:(0:Int)≤(k:Int):=by omega
   have hi1:(k:Int)<(N:Int):=by omega
   have hs0:(0:Int)≤(s:Int):=by omega
   have hs1:(s:Int)<32:=by omega
   clear hda e0
   by_cases hlt2:k+1<N
   ·have e1:((k:Int)+1<(N:Int))=True:=eq_true (by omega)
    obtain ⟨hblt,hcell⟩:=HA.out (k+1) hlt2
    have x0:=(hbw.out.cell (p:=⟨b,off+(k+1),none⟩) hblt).trans hcell
    obtain ⟨db,hdb⟩:∃d,d=a.getD (k+1) 0:=⟨_,rfl⟩
    rw[←hdb] at x0
    unfold u32V at x0
    have HDB:=ZH hdb
    have HDB2:=ZH (show db<4294967296 by rw[hdb]; exact HOA.out.at (k+1))
    have hbg:¬b=g:=by have:=HG.out; omega
    have hbg2:¬g=b:=fun h=>hbg h.symm
    clear hblt hcell hdb
    go_upto_region 7 with fail
    have hv0:Value.int .u32 ((da:Int)/2^s)=u32V (da/2^s):=by unfold u32V; simp
    have y0:(wr.setCell ⟨g,k,none⟩ (.int .u32 ((da:Int)/2^s))).cell? ⟨g,k,none⟩=some (.int .u32 ((da:Int)/2^s)):=by
     rw[hv0,(ho.out.2.1.set k (da/2^s)).at (by rw[List.length_set,ho.out.1]; exact hlt),List.getD_eq_getElem?_getD,List.getElem?_set_self (by rw[ho.out.1]; exact hlt)]
     rfl
    have y1:(wr.setCell ⟨g,k,none⟩ (.int .u32 ((da:Int)/2^s))).frozen? ⟨g,k,none⟩=false:=by rw[hv0]; exact (ho.out.2.1.set k (da/2^s)).free k
    clear hv0
    have hb0:(0:Int)≤(k:Int)+1:=by omega
    have hb2:((k:Int)+1).toNat=k+1:=by omega
    have hb1:IntKind.i64.wrap ((k:Int)+1)=(k:Int)+1:=by rw[IntKind.wrap_i64]; omega
    have x1:(wr.setCell ⟨g,k,none⟩ (.int .u32 ((da:Int)/2^s))).cell? ⟨b,off+(k+1),none⟩=some (.int .u32 (db:Int)):=(World.cell?_setCell_far _ _ _ _ hbg2).trans x0
    go_region
    all_goals
     clear hb0 hb1 hb2
     go_upto_region 8 with fail
     have hw1:IntKind.u64.wrap (IntKind.u64.wrap (db:Int)*4294967296)=(db:Int)*4294967296:=by
      have:=HDB2.out
      rw[IntKind.wrap_u64,IntKind.wrap_u64]
      omega
     have hv1:Value.int .u32 (bits .or .u32 ((da:Int)/2^s) (IntKind.u64.wrap (IntKind.u64.wrap (db:Int)*4294967296)/2^s%4294967296))=u32V (da/2^s+2^(32-s)*(db%2^s)):=by
      unfold u32V
      rw[hw1,u32_or_low hda2 hs]
     rw[hv1]
     obtain ⟨-,hfit⟩:=lower_fits (y:=db) hda2 hs
     have hst:=lower_step (k:=k) (by rw[ho.out.1]; exact hlt) hs ho.out.2.2.2.2
     rw[←HDA.out,←HDB.out] at hst
     have hown:=ho.out.2.1.set k (da/2^s)
     have hown:=hown.set k (da/2^s+2^(32-s)*(db%2^s))
     rw[List.set_set] at hown
     have hv0:Value.int .u32 ((da:Int)/2^s)=u32V (da/2^s):=by unfold u32V; simp
     rw[hv0]
     have HF:=ZH (ZN hfit (ZN hst hown))
     clear y0 y1 x1 hw1 hv1 hv0 hfit hst hown
     go_wp2_with fail
     exact ⟨⟨k+1,o.set k (da/2^s+2^(32-s)*(db%2^s)),by omega,by congr 1,ZH ⟨by rw[List.length_set]; exact ho.out.1,HF.out.2.2.drew,ho.out.2.2.1.set k HF.out.1,by
      rw[List.drop_set_of_lt (by omega)]
      have:=congrArg (List.drop 1) ho.out.2.2.2.1
      simpa[Nat.add_comm] using this,by rw[←HDB.out]; exact HF.out.2.1⟩,ZH ((hbw.out.setCell HG.out _).setCell HG.out _).drew⟩,by simp[intOf]; omega⟩
   ·have e1:((k:Int)+1<(N:Int))=False:=eq_false (by omega)
    have hz:a.getD (k+1) 0=0:=by rw[List.getD_eq_getElem?_getD,List.getElem?_eq_none (by rw[←HN.out]; omega)]; rfl
    obtain ⟨-,hfit⟩:=lower_fits (y:=0) hda2 hs
    have hst:=lower_step (k:=k) (by rw[ho.out.1]; exact hlt) hs ho.out.2.2.2.2
    rw[←HDA.out,hz] at hst
    simp only[Nat.zero_mod,Nat.mul_zero,Nat.add_zero] at hst hfit
    have HF:=ZH (ZN hfit (ZN hst (ZN (ho.out.2.1.set k (da/2^s)) hz)))
    have hv0:Value.int .u32 ((da:Int)/2^s)=u32V (da/2^s):=by unfold u32V; simp
    have HV:=ZH hv0
    clear hfit hst hz hv0
    go_wp2_with fail
    rw[HV.out]
    exact ⟨⟨k+1,o.set k (da/2^s),by omega,by congr 1,ZH ⟨by rw[List.length_set]; exact ho.out.1,HF.out.2.2.1,ho.out.2.2.1.set k HF.out.1,by
      rw[List.drop_set_of_lt (by omega)]
      have:=congrArg (List.drop 1) ho.out.2.2.2.1
      simpa[Nat.add_comm] using this,by rw[HF.out.2.2.2]; simp only[Nat.zero_mod,Nat.mul_zero,Nat.add_zero]; exact HF.out.2.1⟩,ZH (hbw.out.setCell HG.out _)⟩,by simp[intOf]; omega⟩
  ·obtain rfl:k=N:=by omega
   have hm:=ho.out.2.1.mag ho.out.2.2.1
   rw[ho.out.1] at hm
   have htr:=trim_any (by rw[←ho.out.1] at hm; exact hm)
   have h1:=ho.out.2.2.2.2
   have hz:a.getD k 0=0:=by rw[List.getD_eq_getElem?_getD,List.getElem?_eq_none (by rw[←HN.out]; omega)]; rfl
   rw[hz,List.take_of_length_le (by rw[ho.out.1]; exact Nat.le_refl _),List.take_of_length_le (l:=a) (by rw[←HN.out]; exact Nat.le_refl _)] at h1
   simp only[Nat.zero_mod,Nat.mul_zero,Nat.add_zero] at h1
   have hvq:=lower_end h1 HD.out
   have HM:=ZH (ZN hm hvq)
   have HT:=ZH htr
   clear hm htr h1 hz hvq
   go_wp2_with fail
   rw[←ho.out.1]
   refine HT.out.mono ?_
   rintro e w2 ⟨ao2,c2,n,hve,rfl,rfl,hn,hNm,hv⟩
   have hmt:MagIn w2 (.slice ao2 n c2) (o.take n):=by
    have:=HM.out.1
    rw[←ho.out.1,hve] at this
    exact this.take hn
   have HF:=ZH (ZN hmt (ZN hNm (ZN hv hn)))
   clear hmt hNm hv hn hve
   go_wp2_with fail
   go_ret
   exact ⟨_,_,rfl,HF.out.1,HF.out.2.1,by rw[HF.out.2.2.1]; exact HM.out.2,by rw[List.length_take]; have:=ho.out.1; omega,hbw.out⟩
set_option maxHeartbeats 8000000
structure InPlace (g:Nat) (w wr:World):Prop where
 below:∀B w0,B≤g→Below B w0 w→Below B w0 wr
 keep:∀b,b≠g→wr.heap[b]?=w.heap[b]?
theorem InPlace.refl (g:Nat) (w:World):InPlace g w w:=⟨fun _ _ _ h=>h,fun _ _=>rfl⟩
theorem InPlace.drew {g:Nat} {w wr:World} (h:InPlace g w wr):InPlace g w wr.drew:=⟨fun B w0 hB hb=>(h.below B w0 hB hb).drew,h.keep⟩
theorem InPlace.drewN {g:Nat} {w wr:World} (h:InPlace g w wr) (n:Nat):InPlace g w (wr.drewN n):=⟨fun B w0 hB hb=>(h.below B w0 hB hb).trans ⟨rfl,rfl,rfl,Nat.le_refl _,fun _ _=>rfl⟩,h.keep⟩
theorem InPlace.set {g:Nat} {w wr:World} (h:InPlace g w wr) (i:Nat) (v:Value):InPlace g w (wr.setCell ⟨g,i,none⟩ v):=⟨fun B w0 hB hb=>(h.below B w0 hB hb).setCell hB v,fun b hb=>(Below.heap_setCell _ _ _ _ hb).trans (h.keep b hb)⟩
theorem InPlace.cell {g:Nat} {w wr:World} (h:InPlace g w wr) {p:Addr} (hp:p.block≠g):wr.cell? p=w.cell? p:=World.cell?_of_block (h.keep p.block hp)
theorem cell_heap {a b:World} (h:a.heap=b.heap) (p:Addr):a.cell? p=b.cell? p:=by simp[World.cell?,h]
theorem row_heap {a b:World} {g:Nat} {o:List Nat} (h:a.heap=b.heap) (hr:DigRow b g o):DigRow a g o:=by
 unfold DigRow World.rowIs at *
 rw[h]
 exact hr
theorem seg_get (o:List Nat) (i m j:Nat) (h:j<m):((o.drop i).take m).getD j 0=o.getD (i+j) 0:=by
 rw[List.getD_eq_getElem?_getD,List.getElem?_take_of_lt h,←List.getD_eq_getElem?_getD,getD_drop]
theorem top3 {s:List Nat} {m:Nat} (hs:s.length=m+3) (ho:Ok s):∃l,l<pw m∧val s=((s.getD (m+2) 0*4294967296+s.getD (m+1) 0)*4294967296+s.getD m 0)*pw m+l:=by
 refine ⟨val (s.take m),?_,?_⟩
 ·have:=val_lt (ho.take m)
  rw[List.length_take,Nat.min_eq_left (by omega)] at this
  exact this
 ·have e:=take_drop_val s m (by omega)
  have d:val (s.drop m)=(s.getD (m+2) 0*4294967296+s.getD (m+1) 0)*4294967296+s.getD m 0:=by
   rw[drop_val (by omega),drop_val (l:=s) (k:=m+1) (by omega),show m+1+1=m+2 from rfl,drop_val (l:=s) (k:=m+2) (by omega),List.drop_eq_nil_of_le (by omega),val]
   omega
  rw[e,d,Nat.mul_comm,Nat.add_comm]
theorem top2 {s:List Nat} {m:Nat} (hs:s.length=m+2) (ho:Ok s):∃l,l<pw m∧val s=(s.getD (m+1) 0*4294967296+s.getD m 0)*pw m+l:=by
 refine ⟨val (s.take m),?_,?_⟩
 ·have:=val_lt (ho.take m)
  rw[List.length_take,Nat.min_eq_left (by omega)] at this
  exact this
 ·have e:=take_drop_val s m (by omega)
  have d:val (s.drop m)=s.getD (m+1) 0*4294967296+s.getD m 0:=by
   rw[drop_val (by omega),drop_val (l:=s) (k:=m+1) (by omega),List.drop_eq_nil_of_le (by omega),val]
   omega
  rw[e,d,Nat.mul_comm,Nat.add_comm]
theorem digit_any {w:World} {g i cu h off cv n:Nat} {o vl:List Nat} (ho:DigRow w g o) (hok:Ok o) (hi:i+n+1≤o.length) (hol:o.length≤1000001) (hn:2≤n) (hvl:vl.length=n) (hv:∀j,j<n→w.cell? ⟨h,off+j,none⟩=some (u32V (vl.getD j 0))) (hgh:h≠g) (okv:Ok vl)
  (htop:2147483648≤vl.getD (n-1) 0) (hlt:val ((o.drop i).take (n+1))<4294967296*val vl) :
  Calls Tryz.prog 202 #[.slice (some ⟨g,i,none⟩) (n+1) cu,.slice (some ⟨h,off,none⟩) n cv] w fun e w'=>∃(q:Nat) (r:List Nat),e=.returned (.int .u32 (q:Int))∧q<4294967296∧DigRow w' g r∧Ok r∧r.length=o.length∧r.take i=o.take i∧r.drop (i+n+1)=o.drop (i+n+1) ∧
   val ((o.drop i).take (n+1))=q*val vl+val ((r.drop i).take (n+1))∧val ((r.drop i).take (n+1))<val vl∧InPlace g w w':=by
 have HO:=ZH (ZN ho (ZN hok hvl))
 have HV:=ZH hv
 have HT:=ZH (ZN okv (ZN htop hlt))
 obtain ⟨un,hun⟩:∃d,d=o.getD (i+n) 0:=⟨_,rfl⟩
 obtain ⟨u1,hu1⟩:∃d,d=o.getD (i+(n-1)) 0:=⟨_,rfl⟩
 obtain ⟨u2,hu2⟩:∃d,d=o.getD (i+(n-2)) 0:=⟨_,rfl⟩
 obtain ⟨v1,hv1⟩:∃d,d=vl.getD (n-1) 0:=⟨_,rfl⟩
 obtain ⟨v2,hv2⟩:∃d,d=vl.getD (n-2) 0:=⟨_,rfl⟩
 have x0:=ho.at (i:=i+n) (by omega)
 have x1:=ho.at (i:=i+(n-1)) (by omega)
 have x2:=ho.at (i:=i+(n-2)) (by omega)
 have y1:=hv (n-1) (by omega)
 have y2:=hv (n-2) (by omega)
 rw[←hun] at x0
 rw[←hu1] at x1
 rw[←hu2] at x2
 rw[←hv1] at y1
 rw[←hv2] at y2
 unfold u32V at x0 x1 x2 y1 y2
 have b0:un<4294967296:=by rw[hun]; exact hok.at _
 have b1:u1<4294967296:=by rw[hu1]; exact hok.at _
 have b2:u2<4294967296:=by rw[hu2]; exact hok.at _
 have b3:v1<4294967296:=by rw[hv1]; exact okv.at _
 have b4:v2<4294967296:=by rw[hv2]; exact okv.at _
 have b5:2147483648≤v1:=by rw[hv1]; exact htop
 have htp:Top (val ((o.drop i).take (n+1))) (val vl) (pw (n-2)) (un*4294967296+u1) u2 v1 v2:=by
  have hsl:((o.drop i).take (n+1)).length=(n-2)+3:=by rw[List.length_take,List.length_drop]; omega
  obtain ⟨lu,l1,l2⟩:=top3 hsl ((hok.drop i).take (n+1))
  obtain ⟨lv,l3,l4⟩:=top2 (s:=vl) (m:=n-2) (by omega) okv
  rw[seg_get _ _ _ _ (by omega),seg_get _ _ _ _ (by omega),seg_get _ _ _ _ (by omega),show n-2+2=n by omega,show n-2+1=n-1 by omega,←hun,←hu1,←hu2] at l2
  rw[show n-2+1=n-1 by omega,←hv1,←hv2] at l4
  exact ⟨⟨lu,l1,l2⟩,⟨lv,l3,l4⟩,pw_pos _,b5,b4,b2,hlt⟩
 have HU:=ZH (ZN hun (ZN hu1 (ZN hu2 (ZN hv1 hv2))))
 have i0:(0:Int)≤(n:Int):=by omega
 have i1:(n:Int)<(n:Int)+1:=by omega
 have i2:(0:Int)≤(n:Int)-1:=by omega
 have i3:(n:Int)-1<(n:Int):=by omega
 have i4:(n:Int)-1<(n:Int)+1:=by omega
 have i5:(0:Int)≤(n:Int)-2:=by omega
 have i6:(n:Int)-2<(n:Int):=by omega
 have i7:(n:Int)-2<(n:Int)+1:=by omega
 have i8:(1:Int)≤(n:Int):=by omega
 have i9:(2:Int)≤(n:Int):=by omega
 have hn2:n≤1000000:=by omega
 have hn3:(n:Int)≤1000000:=by omega
 have t1:((n:Int)-1).toNat=n-1:=by omega
 have t2:((n:Int)-2).toNat=n-2:=by omega
 have s1:IntKind.i64.wrap ((n:Int)-1)=(n:Int)-1:=by rw[IntKind.wrap_i64]; omega
 have s2:IntKind.i64.wrap ((n:Int)-2)=(n:Int)-2:=by rw[IntKind.wrap_i64]; omega
 clear ho hok hv okv htop hlt hun hu1 hu2 hv1 hv2
 go_enter Tryz.func202,Tryz.ntmps202
 go_upto_region 2 with fail
 go_quiet (fail)
 rw[u64_or b0 b1]
 obtain ⟨H,hH⟩:∃H,H=un*4294967296+u1:=⟨_,rfl⟩
 rw[←hH]
 have hHb:H<18446744073709551616:=by omega
 rw[←hH] at htp
 have HTP:=ZH htp
 have HH:=ZH hH
 obtain ⟨Q,hQ⟩:∃Q,Q=H/v1:=⟨_,rfl⟩
 obtain ⟨R,hR⟩:∃R,R=H%v1:=⟨_,rfl⟩
 have hRv:R<v1:=by rw[hR]; exact Nat.mod_lt _ (by omega)
 have hdv:(H:Int).tdiv (v1:Int)=(Q:Int):=by rw[hQ]; rfl
 have hdm:(H:Int).tmod (v1:Int)=(R:Int):=by rw[hR]; rfl
 have hnz:((v1:Int)==0)=false:=ZQ.2 (by omega)
 have hqb:Q≤4294967297:=by rw[hQ]; exact htp.small
 have hqw:IntKind.u64.wrap (Q:Int)=(Q:Int):=by rw[IntKind.wrap_u64]; omega
 have HQ:=ZH (show Guess (val ((o.drop i).take (n+1))) (val vl) H v1 Q R by rw[hQ,hR]; exact htp.first)
 obtain ⟨wq,hwq⟩:∃wq,wq=w.drewN nq:=⟨_,rfl⟩
 have HIP:=ZH (show InPlace g w wq∧wq.heap=w.heap by rw[hwq]; exact ⟨(InPlace.refl g w).drewN nq,rfl⟩)
 have z0:∀p:Addr,wq.cell? p=w.cell? p:=by rw[hwq]; exact fun _=>rfl
 rw[←z0] at x0 x1 x2 y1 y2
 rw[←hwq]
 clear hH hQ hR z0 hwq htp
 go_upto_region 3 with fail
 go_quiet (fail)
 clear hdv hdm hqw s1 s2
 have H1:=ZH (ZN x0 (ZN x2 (ZN y1 y2)))
 obtain ⟨wl,hwl⟩:∃wl,wl=wq.drewN nq:=⟨_,rfl⟩
 rw[←hwl]
 have HWL:=ZH (show InPlace g w wl∧wl.heap=wq.heap by rw[hwl]; exact ⟨HIP.out.1.drewN _,rfl⟩)
 clear hwl x0 x1 x2 y1 y2
 go_wp2_with fail
 go_loopw [7,8] (fun a b wr=>∃q rest:Nat,a=.int .u64 q∧b=.int .u64 rest∧q≤4294967297∧rest<8589934592∧(q≤4294967296∨rest<4294967296)∧Hid (Guess (val ((o.drop i).take (n+1))) (val vl) H v1 q rest)∧Hid (InPlace g w wr∧wr.heap=wq.heap)) (fun _ b _=>8589934592-(intOf b).toNat)
 case atStart=>exact ⟨Q,R,rfl,rfl,hqb,by omega,.inr (by omega),HQ,HWL⟩
 case round=>
  obtain ⟨q,rest,rfl,rfl,hq1,hr1,hqr,hgs,hwr⟩:=hrel
  have x2:=(cell_heap hwr.out.2 _).trans H1.out.2.1
  have y1:=(cell_heap hwr.out.2 _).trans H1.out.2.2.1
  have y2:=(cell_heap hwr.out.2 _).trans H1.out.2.2.2
  by_cases hr:rest<4294967296
  ·have e1:((rest:Int)<4294967296)=True:=eq_true (by omega)
   by_cases hq:4294967296≤q
   ·have e2:((4294967296:Int)≤(q:Int))=True:=eq_true (by omega)
    have hg2:=ZH (hgs.out.less HTP.out hq)
    go_upto_region 4 with fail
    go_quiet (fail)
    go_wp2_with fail
    exact ⟨⟨q-1,rest+v1,by congr 1; omega,by congr 1,by omega,by omega,.inl (by omega),hg2,ZH ⟨hwr.out.1.drewN _,hwr.out.2⟩⟩,by simp[intOf]; omega⟩
   ·have e2:((4294967296:Int)≤(q:Int))=False:=eq_false (by omega)
    obtain ⟨Pp,hP⟩:∃P,P=q*v2:=⟨_,rfl⟩
    have hPb:Pp≤18446744065119617025:=by rw[hP]; exact mul_small (by omega) b4
    have hPi:(q:Int)*(v2:Int)=(Pp:Int):=by rw[hP]; exact (Int.natCast_mul q v2).symm
    obtain ⟨S,hS⟩:∃S,S=rest*4294967296+u2:=⟨_,rfl⟩
    have hor:=u64_or hr b2
    rw[←hS] at hor
    have hpw:IntKind.u64.wrap (Pp:Int)=(Pp:Int):=by rw[IntKind.wrap_u64]; omega
    have s2:IntKind.i64.wrap ((n:Int)-2)=(n:Int)-2:=by rw[IntKind.wrap_i64]; omega
    by_cases hgt:S<Pp
    ·have e3:((S:Int)<(Pp:Int))=True:=eq_true (by omega)
     have hg2:=ZH (hgs.out.less2 HTP.out (by rw[←hS,←hP]; exact hgt))
     have hq0:1≤q:=by exact Nat.pos_of_ne_zero (fun h0=>by rw[h0,Nat.zero_mul] at hP; omega)
     clear hP hS
     go_upto_region 4 with fail
     go_quiet (fail)
     clear s2 hpw hor hPi
     go_wp2_with fail
     exact ⟨⟨q-1,rest+v1,by congr 1; omega,by congr 1,by omega,by omega,.inl (by omega),hg2,ZH ⟨hwr.out.1.drewN _,hwr.out.2⟩⟩,by simp[intOf]; omega⟩
    ·have e3:((S:Int)<(Pp:Int))=False:=eq_false (by omega)
     have hq4:q≤4294967296:=by omega
     have hnear:=hgs.out.near HTP.out hq4 (.inr ⟨by omega,by rw[←hS,←hP]; omega⟩)
     have HN:=ZH (ZN hnear hgs.out.ge)
     clear hP hS hnear
     go_upto_region 4 with fail
     go_quiet (fail)
     clear s2 hpw hor hPi e2 e3 hgt
     go_upto_region 7 with fail
     obtain ⟨ws,hws⟩:∃ws,ws=wr.drewN nq:=⟨_,rfl⟩
     have HS:=ZH (show InPlace g w ws∧DigRow ws g o by rw[hws]; exact ⟨hwr.out.1.drewN _,row_heap (hwr.out.2.trans HIP.out.2) HO.out.1⟩)
     rw[←hws]
     clear hws x2 y1 y2 hqr hr1 e1
     go_wp2_with fail
     go_loopw [9,10,86] (fun a b c wr=>∃(k cy bw:Nat) (p:List Nat),k≤n∧a=.int .u64 cy∧b=.int .i64 bw∧c=.int .i64 k∧bw≤1∧(cy<q∨cy=0)∧Hid (DigRow wr g p∧Ok p∧p.length=o.length∧p.take i=o.take i∧p.drop (i+k)=o.drop (i+k)∧val ((p.drop i).take k)+q*val (vl.take k)=val ((o.drop i).take k)+pw k*(cy+bw))∧Hid (InPlace g w wr)) (fun _ _ c _=>n-(intOf c).toNat)
     case atStart=>exact ⟨0,0,0,o,Nat.zero_le _,rfl,rfl,rfl,by omega,.inr rfl,ZH ⟨HS.out.2,HO.out.2.1,rfl,rfl,rfl,by simp[val]⟩,ZH HS.out.1⟩
     case round=>
      obtain ⟨k,cy,bw,p,hk,rfl,rfl,rfl,hbw,hcq,hp,hip⟩:=hrel
      have hcy:cy≤4294967296:=by omega
      by_cases hlt:k<n
      ·have y1:=(hip.out.cell (p:=⟨h,off+k,none⟩) hgh).trans (HV.out k hlt)
       have g0:=hp.out.1.at (i:=i+k) (by rw[hp.out.2.2.1]; omega)
       have g1:=World.rowIs.frozen hp.out.1 (i+k)
       have e0:p.getD (i+k) 0=o.getD (i+k) 0:=by
        have:=congrArg (fun l=>l.getD 0 0) hp.out.2.2.2.2.1
        simpa[List.getD_eq_getElem?_getD] using this
       obtain ⟨d,hd⟩:∃d,d=vl.getD k 0:=⟨_,rfl⟩
       obtain ⟨u,hu⟩:∃u,u=o.getD (i+k) 0:=⟨_,rfl⟩
       have hd2:d<4294967296:=by rw[hd]; exact HT.out.1.at k
       have hu2:u<4294967296:=by rw[hu]; exact HO.out.2.1.at (i+k)
       rw[←hd] at y1
       rw[e0,←hu] at g0
       unfold u32V at y1 g0
       obtain ⟨hcf,hqf⟩:=carry_fits hd2 hq4 hcq
       have hnc:=carry_less hd2 hcq
       obtain ⟨Pp,hP⟩:∃P,P=q*d:=⟨_,rfl⟩
       have hPi:(q:Int)*(d:Int)=(Pp:Int):=by rw[hP]; exact (Int.natCast_mul q d).symm
       obtain ⟨C,hC⟩:∃C,C=cy+Pp:=⟨_,rfl⟩
       rw[←hP,←hC] at hcf hnc
       rw[←hP] at hqf
       have hCi:(cy:Int)+(Pp:Int)=(C:Int):=by omega
       obtain ⟨L,hL⟩:∃L,L=C%4294967296:=⟨_,rfl⟩
       obtain ⟨M,hM⟩:∃M,M=C/4294967296:=⟨_,rfl⟩
       have hLi:(C:Int)%4294967296=(L:Int):=by omega
       have hMi:(C:Int)/4294967296=(M:Int):=by omega
       have hL2:L<4294967296:=by omega
       rw[←hM] at hnc
       obtain ⟨x,hx⟩:∃x:Nat,(x:Int)=((u:Int)-(bw:Int)-(L:Int))%4294967296:=⟨(((u:Int)-(bw:Int)-(L:Int))%4294967296).toNat,by omega⟩
       have hx2:x<4294967296:=by omega
       have hbr:=borrow_is hu2 hL2 hbw hx
       have HBR:=ZH (ZN hbr hx)
       have HC:=ZH (show cy+q*d=L+4294967296*M by rw[←hP,←hC]; omega)
       have HD:=ZH (ZN hd hu)
       have hi0:(0:Int)≤(k:Int):=by omega
       have hi1:(k:Int)<(n:Int):=by omega
       have hi2:(k:Int)<(n:Int)+1:=by omega
       have hM2:M≤4294967296:=by omega
       have HNC:=ZH hnc
       clear hd hu hx hbr hP hC hL hM hnc e0
       by_cases hneg:(u:Int)-(bw:Int)-(L:Int)<0
       ·have e2:((u:Int)-(bw:Int)-(L:Int)<0)=True:=eq_true hneg
        have hst:=sub_step (s:=p.drop i) (u:=o.drop i) (v:=vl) (k:=k) (q:=q) (x:=x) (b2:=1) (by rw[List.length_drop,hp.out.2.2.1]; omega) hp.out.2.2.2.2.2 (by rw[←HD.out.1]; exact HC.out) (by rw[getD_drop,←HD.out.2]; have:=HBR.out.1.1 hneg; omega)
        have HST:=ZH hst
        clear hst hneg
        go_wp2_with fail
        have hv:Value.int .u32 (((u:Int)-(bw:Int)-(L:Int))%4294967296)=u32V x:=by unfold u32V; rw[HBR.out.2]
        rw[hv]
        exact ⟨⟨k+1,M,1,p.set (i+k) x,by omega,rfl,rfl,by congr 1,by omega,HNC.out,ZH ⟨hp.out.1.set (by rw[hp.out.2.2.1]; omega) x,hp.out.2.1.set _ hx2,by rw[List.length_set]; exact hp.out.2.2.1,by rw[take_set_at]; exact hp.out.2.2.2.1,by
         rw[List.drop_set_of_lt (by omega),←Nat.add_assoc]
         have:=congrArg (List.drop 1) hp.out.2.2.2.2.1
         simpa[Nat.add_comm,Nat.add_left_comm] using this,by rw[drop_set_at]; exact HST.out⟩,ZH (hip.out.set _ _)⟩,by simp[intOf]; omega⟩
       ·have e2:((u:Int)-(bw:Int)-(L:Int)<0)=False:=eq_false hneg
        have hst:=sub_step (s:=p.drop i) (u:=o.drop i) (v:=vl) (k:=k) (q:=q) (x:=x) (b2:=0) (by rw[List.length_drop,hp.out.2.2.1]; omega) hp.out.2.2.2.2.2 (by rw[←HD.out.1]; exact HC.out) (by rw[getD_drop,←HD.out.2]; have:=HBR.out.1.2 hneg; omega)
        have HST:=ZH hst
        clear hst hneg
        go_wp2_with fail
        have hv:Value.int .u32 (((u:Int)-(bw:Int)-(L:Int))%4294967296)=u32V x:=by unfold u32V; rw[HBR.out.2]
        rw[hv]
        exact ⟨⟨k+1,M,0,p.set (i+k) x,by omega,rfl,rfl,by congr 1,by omega,HNC.out,ZH ⟨hp.out.1.set (by rw[hp.out.2.2.1]; omega) x,hp.out.2.1.set _ hx2,by rw[List.length_set]; exact hp.out.2.2.1,by rw[take_set_at]; exact hp.out.2.2.2.1,by
         rw[List.drop_set_of_lt (by omega),←Nat.add_assoc]
         have:=congrArg (List.drop 1) hp.out.2.2.2.2.1
         simpa[Nat.add_comm,Nat.add_left_comm] using this,by rw[drop_set_at]; exact HST.out⟩,ZH (hip.out.set _ _)⟩,by simp[intOf]; omega⟩
      ·obtain rfl:k=n:=by omega
       have g0:=hp.out.1.at (i:=i+k) (by rw[hp.out.2.2.1]; omega)
       have g1:=World.rowIs.frozen hp.out.1 (i+k)
       have e0:p.getD (i+k) 0=o.getD (i+k) 0:=by
        have:=congrArg (fun l=>l.getD 0 0) hp.out.2.2.2.2.1
        simpa[List.getD_eq_getElem?_getD] using this
       rw[e0,←HU.out.1] at g0
       unfold u32V at g0
       have hU:val ((o.drop i).take (k+1))=val ((o.drop i).take k)+pw k*un:=by rw[take_step,getD_drop,←HU.out.1]
       have hinv:=hp.out.2.2.2.2.2
       rw[List.take_of_length_le (l:=vl) (by rw[HO.out.2.2]; exact Nat.le_refl _)] at hinv
       have hap:val ((p.drop i).take k)<pw k:=by
        have:=val_lt ((hp.out.2.1.drop i).take k)
        rw[List.length_take,List.length_drop,Nat.min_eq_left (by rw[hp.out.2.2.1]; omega)] at this
        exact this
       have hVp:val vl≤pw k:=by
        have:=val_lt HT.out.1
        rw[HO.out.2.2] at this
        exact Nat.le_of_lt this
       have hk0:(0:Int)≤(k:Int):=by omega
       by_cases hneg:(un:Int)-(bw:Int)-(cy:Int)<0
       ·have hw:=sub_wrong (U:=val ((o.drop i).take (k+1))) (V:=val vl) (P:=pw k) (a:=val ((p.drop i).take k)) (q:=q) (cb:=cy+bw) (un:=un) (by rw[hU,Nat.mul_comm un,Nat.add_sub_cancel,Nat.mul_comm (cy+bw)]; omega) (by rw[hU,Nat.mul_comm un]; omega) (by omega) hVp hap HN.out.1
        have hq0:1≤q:=hw.2.1
        have hx:((un:Int)-(bw:Int)-(cy:Int))%4294967296=4294967295:=by have:=hw.1; omega
        have e2:((0:Int)≤(un:Int)-(bw:Int)-(cy:Int))=False:=eq_false (by omega)
        have e3:((cy:Int)≤(un:Int)-(bw:Int))=False:=eq_false (by omega)
        have hrow:=hp.out.1.set (i:=i+k) (by rw[hp.out.2.2.1]; omega) 4294967295
        have HW:=ZH hw
        have HR0:=ZH hrow
        clear hinv hU hap hVp hw hrow e0 hneg
        go_upto_region 21 with fail
        rw[hx]
        obtain ⟨wt,hwt⟩:∃wt,wt=wr.setCell ⟨g,i+k,none⟩ (.int .u32 4294967295):=⟨_,rfl⟩
        obtain ⟨r0,hr0⟩:∃r0,r0=p.set (i+k) 4294967295:=⟨_,rfl⟩
        have HWT:=ZH (show InPlace g w wt∧DigRow wt g r0∧Ok r0∧r0.length=o.length∧r0.take i=o.take i∧(r0.drop i).take k=(p.drop i).take k∧r0.getD (i+k) 0=4294967295∧r0.drop (i+k+1)=o.drop (i+k+1) by
         rw[hwt,hr0]
         refine ⟨hip.out.set _ _,HR0.out,hp.out.2.1.set _ (by omega),by rw[List.length_set]; exact hp.out.2.2.1,by rw[take_set_at]; exact hp.out.2.2.2.1,?_,?_,?_⟩
         ·rw[drop_set_at,List.take_set,List.set_eq_of_length_le (by rw[List.length_take]; omega)]
         ·rw[List.getD_eq_getElem?_getD,List.getElem?_set_self (by rw[hp.out.2.2.1]; omega)]
          rfl
         ·rw[List.drop_set_of_lt (by omega)]
          have:=congrArg (List.drop 1) hp.out.2.2.2.2.1
          simpa[Nat.add_comm,Nat.add_left_comm] using this)
        rw[←hwt]
        clear hwt hr0 hx g0 g1
        go_wp2_with fail
        go_loopw [9,139] (fun a c wr=>∃(j cy:Nat) (r:List Nat),j≤k∧a=.int .u64 cy∧c=.int .i64 j∧cy≤1∧Hid (DigRow wr g r∧Ok r∧r.length=o.length∧r.take i=o.take i∧r.drop (i+j)=r0.drop (i+j)∧val ((r.drop i).take j)+pw j*cy=val ((r0.drop i).take j)+val (vl.take j))∧Hid (InPlace g w wr)) (fun _ c _=>k-(intOf c).toNat)
        case atStart=>exact ⟨0,0,r0,Nat.zero_le _,rfl,rfl,by omega,ZH ⟨HWT.out.2.1,HWT.out.2.2.1,HWT.out.2.2.2.1,HWT.out.2.2.2.2.1,rfl,by simp[val]⟩,ZH HWT.out.1⟩
        case round=>
         obtain ⟨j,c2,r,hj,rfl,rfl,hc2,hr,hir⟩:=hrel
         by_cases hlt2:j<k
         ·have y1:=(hir.out.cell (p:=⟨h,off+j,none⟩) hgh).trans (HV.out j hlt2)
          have g0:=hr.out.1.at (i:=i+j) (by rw[hr.out.2.2.1]; omega)
          have g1:=World.rowIs.frozen hr.out.1 (i+j)
          have e0:r.getD (i+j) 0=r0.getD (i+j) 0:=by
           have:=congrArg (fun l=>l.getD 0 0) hr.out.2.2.2.2.1
           simpa[List.getD_eq_getElem?_getD] using this
          obtain ⟨d,hd⟩:∃d,d=vl.getD j 0:=⟨_,rfl⟩
          obtain ⟨u,hu⟩:∃u,u=r0.getD (i+j) 0:=⟨_,rfl⟩
          have hd2:d<4294967296:=by rw[hd]; exact HT.out.1.at j
          have hu2:u<4294967296:=by rw[hu]; exact HWT.out.2.2.1.at (i+j)
          rw[←hd] at y1
          rw[e0,←hu] at g0
          unfold u32V at y1 g0
          obtain ⟨C,hC⟩:∃C,C=c2+(u+d):=⟨_,rfl⟩
          have hCi:(c2:Int)+((u:Int)+(d:Int))=(C:Int):=by omega
          have hCb:C≤8589934592:=by omega
          obtain ⟨L,hL⟩:∃L,L=C%4294967296:=⟨_,rfl⟩
          obtain ⟨M,hM⟩:∃M,M=C/4294967296:=⟨_,rfl⟩
          have hLi:(C:Int)%4294967296=(L:Int):=by omega
          have hMi:(C:Int)/4294967296=(M:Int):=by omega
          have hL2:L<4294967296:=by omega
          have hM2:M≤1:=by omega
          have hst:=back_step (s:=r.drop i) (u:=r0.drop i) (v:=vl) (k:=j) (c:=c2) (by rw[List.length_drop,hr.out.2.2.1]; omega) hr.out.2.2.2.2.2
          rw[getD_drop,←hd,←hu,←hC,←hL,←hM] at hst
          have HST:=ZH hst
          have hi0:(0:Int)≤(j:Int):=by omega
          have hi1:(j:Int)<(k:Int):=by omega
          have hi2:(j:Int)<(k:Int)+1:=by omega
          clear hd hu hC hL hM hst e0
          go_wp2_with fail
          have hv:Value.int .u32 (L:Int)=u32V L:=rfl
          rw[hv]
          exact ⟨⟨j+1,M,r.set (i+j) L,by omega,rfl,by congr 1,hM2,ZH ⟨hr.out.1.set (by rw[hr.out.2.2.1]; omega) L,hr.out.2.1.set _ hL2,by rw[List.length_set]; exact hr.out.2.2.1,by rw[take_set_at]; exact hr.out.2.2.2.1,by
           rw[List.drop_set_of_lt (by omega),←Nat.add_assoc]
           have:=congrArg (List.drop 1) hr.out.2.2.2.2.1
           simpa[Nat.add_comm,Nat.add_left_comm] using this,by rw[drop_set_at]; exact HST.out⟩,ZH (hir.out.set _ _)⟩,by simp[intOf]; omega⟩
         ·obtain rfl:j=k:=by omega
          have g0:=hr.out.1.at (i:=i+j) (by rw[hr.out.2.2.1]; omega)
          have g1:=World.rowIs.frozen hr.out.1 (i+j)
          have e0:r.getD (i+j) 0=r0.getD (i+j) 0:=by
           have:=congrArg (fun l=>l.getD 0 0) hr.out.2.2.2.2.1
           simpa[List.getD_eq_getElem?_getD] using this
          rw[e0,HWT.out.2.2.2.2.2.2.1] at g0
          unfold u32V at g0
          have hinv:=hr.out.2.2.2.2.2
          rw[List.take_of_length_le (l:=vl) (by rw[HO.out.2.2]; exact Nat.le_refl _),HWT.out.2.2.2.2.2.1] at hinv
          have hap:val ((r.drop i).take j)<pw j:=by
           have:=val_lt ((hr.out.2.1.drop i).take j)
           rw[List.length_take,List.length_drop,Nat.min_eq_left (by rw[hr.out.2.2.1]; omega)] at this
           exact this
          obtain rfl:c2=1:=by
           rcases Nat.lt_or_ge c2 1 with h9 | h9
           ·exfalso
            obtain rfl:c2=0:=by omega
            have:=HW.out.2.2.1
            rw[Nat.mul_zero] at hinv
            omega
           ·omega
          have hA:val ((r.drop i).take j)=val ((p.drop i).take j)+val vl-pw j:=by omega
          have hrow:=hr.out.1.set (i:=i+j) (by rw[hr.out.2.2.1]; omega) 0
          have HR1:=ZH (ZN hrow hA)
          have hqm:((q:Int)-1)%4294967296=(q:Int)-1:=by omega
          clear hinv hap hA hrow e0
          go_wp2_with fail
          go_ret
          refine ⟨q-1,r.set (i+j) 0,?_,by omega,HR1.out.1,hr.out.2.1.set _ (by omega),by rw[List.length_set]; exact hr.out.2.2.1,by rw[take_set_at]; exact hr.out.2.2.2.1,?_,?_,?_,hir.out.set _ _⟩
          ·show Ending.returned (.int .u32 ((q:Int)-1))=_
           rw[show ((q-1:Nat):Int)=(q:Int)-1 by omega]
          ·rw[List.drop_set_of_lt (by omega),←HWT.out.2.2.2.2.2.2.2]
           have:=congrArg (List.drop 1) hr.out.2.2.2.2.1
           simpa[Nat.add_comm,Nat.add_left_comm] using this
          ·rw[drop_set_at,set_val (by rw[List.length_drop,hr.out.2.2.1]; omega),Nat.mul_zero,Nat.add_zero,HR1.out.2]
           exact HW.out.2.2.2.1
          ·rw[drop_set_at,set_val (by rw[List.length_drop,hr.out.2.2.1]; omega),Nat.mul_zero,Nat.add_zero,HR1.out.2]
           exact HW.out.2.2.2.2
       ·have hT:∃T:Nat,(T:Int)=(un:Int)-(bw:Int)-(cy:Int):=⟨((un:Int)-(bw:Int)-(cy:Int)).toNat,by omega⟩
        obtain ⟨T,hT⟩:=hT
        have hw:=sub_right (U:=val ((o.drop i).take (k+1))) (V:=val vl) (P:=pw k) (a:=val ((p.drop i).take k)) (q:=q) (cb:=cy+bw) (un:=un) (t:=T) (by rw[hU,Nat.mul_comm un,Nat.add_sub_cancel,Nat.mul_comm (cy+bw)]; omega) (by rw[hU,Nat.mul_comm un]; omega) (by omega) HN.out.2
        have hqq:q<4294967296:=by
         rcases Nat.lt_or_ge q 4294967296 with h9 | h9
         ·exact h9
         ·exfalso
          have h8:4294967296*val vl≤q*val vl:=Nat.mul_le_mul_right _ h9
          have h7:=HT.out.2.2
          omega
        have hT2:T<4294967296:=by omega
        have e2:((0:Int)≤(T:Int))=True:=eq_true (by omega)
        have hTm:(T:Int)%4294967296=(T:Int):=by omega
        have hqm:(q:Int)%4294967296=(q:Int):=by omega
        have hrow:=hp.out.1.set (i:=i+k) (by rw[hp.out.2.2.1]; omega) T
        have HW:=ZH hw
        have HR0:=ZH hrow
        have hTi:(un:Int)-(bw:Int)-(cy:Int)=(T:Int):=hT.symm
        clear hinv hU hap hVp hw hrow e0 hneg hT
        go_wp2_with fail
        go_ret
        refine ⟨q,p.set (i+k) T,?_,hqq,?_,hp.out.2.1.set _ hT2,by rw[List.length_set]; exact hp.out.2.2.1,by rw[take_set_at]; exact hp.out.2.2.2.1,?_,?_,?_,hip.out.set _ _⟩
        ·rfl
        ·exact HR0.out
        ·rw[List.drop_set_of_lt (by omega)]
         have:=congrArg (List.drop 1) hp.out.2.2.2.2.1
         simpa[Nat.add_comm,Nat.add_left_comm] using this
        ·rw[drop_set_at,set_val (by rw[List.length_drop,hp.out.2.2.1]; omega)]
         exact HW.out.1
        ·rw[drop_set_at,set_val (by rw[List.length_drop,hp.out.2.2.1]; omega)]
         exact HW.out.2
  ·have hq4:q≤4294967296:=by omega
   have hnear:=hgs.out.near HTP.out hq4 (.inl (by omega))
   have HN:=ZH (ZN hnear hgs.out.ge)
   have e1:((rest:Int)<4294967296)=False:=eq_false (by omega)
   clear hnear
   go_upto_region 4 with fail
   go_quiet (fail)
   go_upto_region 7 with fail
   obtain ⟨ws,hws⟩:∃ws,ws=wr.drewN nq:=⟨_,rfl⟩
   have HS:=ZH (show InPlace g w ws∧DigRow ws g o by rw[hws]; exact ⟨hwr.out.1.drewN _,row_heap (hwr.out.2.trans HIP.out.2) HO.out.1⟩)
   rw[←hws]
   clear hws x2 y1 y2 hqr hr1 e1
   go_wp2_with fail
   go_loopw [9,10,86] (fun a b c wr=>∃(k cy bw:Nat) (p:List Nat),k≤n∧a=.int .u64 cy∧b=.int .i64 bw∧c=.int .i64 k∧bw≤1∧(cy<q∨cy=0)∧Hid (DigRow wr g p∧Ok p∧p.length=o.length∧p.take i=o.take i∧p.drop (i+k)=o.drop (i+k)∧val ((p.drop i).take k)+q*val (vl.take k)=val ((o.drop i).take k)+pw k*(cy+bw))∧Hid (InPlace g w wr)) (fun _ _ c _=>n-(intOf c).toNat)
   case atStart=>exact ⟨0,0,0,o,Nat.zero_le _,rfl,rfl,rfl,by omega,.inr rfl,ZH ⟨HS.out.2,HO.out.2.1,rfl,rfl,rfl,by simp[val]⟩,ZH HS.out.1⟩
   case round=>
    obtain ⟨k,cy,bw,p,hk,rfl,rfl,rfl,hbw,hcq,hp,hip⟩:=hrel
    have hcy:cy≤4294967296:=by omega
    by_cases hlt:k<n
    ·have y1:=(hip.out.cell (p:=⟨h,off+k,none⟩) hgh).trans (HV.out k hlt)
     have g0:=hp.out.1.at (i:=i+k) (by rw[hp.out.2.2.1]; omega)
     have g1:=World.rowIs.frozen hp.out.1 (i+k)
     have e0:p.getD (i+k) 0=o.getD (i+k) 0:=by
      have:=congrArg (fun l=>l.getD 0 0) hp.out.2.2.2.2.1
      simpa[List.getD_eq_getElem?_getD] using this
     obtain ⟨d,hd⟩:∃d,d=vl.getD k 0:=⟨_,rfl⟩
     obtain ⟨u,hu⟩:∃u,u=o.getD (i+k) 0:=⟨_,rfl⟩
     have hd2:d<4294967296:=by rw[hd]; exact HT.out.1.at k
     have hu2:u<4294967296:=by rw[hu]; exact HO.out.2.1.at (i+k)
     rw[←hd] at y1
     rw[e0,←hu] at g0
     unfold u32V at y1 g0
     obtain ⟨hcf,hqf⟩:=carry_fits hd2 hq4 hcq
     have hnc:=carry_less hd2 hcq
     obtain ⟨Pp,hP⟩:∃P,P=q*d:=⟨_,rfl⟩
     have hPi:(q:Int)*(d:Int)=(Pp:Int):=by rw[hP]; exact (Int.natCast_mul q d).symm
     obtain ⟨C,hC⟩:∃C,C=cy+Pp:=⟨_,rfl⟩
     rw[←hP,←hC] at hcf hnc
     rw[←hP] at hqf
     have hCi:(cy:Int)+(Pp:Int)=(C:Int):=by omega
     obtain ⟨L,hL⟩:∃L,L=C%4294967296:=⟨_,rfl⟩
     obtain ⟨M,hM⟩:∃M,M=C/4294967296:=⟨_,rfl⟩
     have hLi:(C:Int)%4294967296=(L:Int):=by omega
     have hMi:(C:Int)/4294967296=(M:Int):=by omega
     have hL2:L<4294967296:=by omega
     rw[←hM] at hnc
     obtain ⟨x,hx⟩:∃x:Nat,(x:Int)=((u:Int)-(bw:Int)-(L:Int))%4294967296:=⟨(((u:Int)-(bw:Int)-(L:Int))%4294967296).toNat,by omega⟩
     have hx2:x<4294967296:=by omega
     have hbr:=borrow_is hu2 hL2 hbw hx
     have HBR:=ZH (ZN hbr hx)
     have HC:=ZH (show cy+q*d=L+4294967296*M by rw[←hP,←hC]; omega)
     have HD:=ZH (ZN hd hu)
     have hi0:(0:Int)≤(k:Int):=by omega
     have hi1:(k:Int)<(n:Int):=by omega
     have hi2:(k:Int)<(n:Int)+1:=by omega
     have hM2:M≤4294967296:=by omega
     have HNC:=ZH hnc
     clear hd hu hx hbr hP hC hL hM hnc e0
     by_cases hneg:(u:Int)-(bw:Int)-(L:Int)<0
     ·have e2:((u:Int)-(bw:Int)-(L:Int)<0)=True:=eq_true hneg
      have hst:=sub_step (s:=p.drop i) (u:=o.drop i) (v:=vl) (k:=k) (q:=q) (x:=x) (b2:=1) (by rw[List.length_drop,hp.out.2.2.1]; omega) hp.out.2.2.2.2.2 (by rw[←HD.out.1]; exact HC.out) (by rw[getD_drop,←HD.out.2]; have:=HBR.out.1.1 hneg; omega)
      have HST:=ZH hst
      clear hst hneg
      go_wp2_with fail
      have hv:Value.int .u32 (((u:Int)-(bw:Int)-(L:Int))%4294967296)=u32V x:=by unfold u32V; rw[HBR.out.2]
      rw[hv]
      exact ⟨⟨k+1,M,1,p.set (i+k) x,by omega,rfl,rfl,by congr 1,by omega,HNC.out,ZH ⟨hp.out.1.set (by rw[hp.out.2.2.1]; omega) x,hp.out.2.1.set _ hx2,by rw[List.length_set]; exact hp.out.2.2.1,by rw[take_set_at]; exact hp.out.2.2.2.1,by
       rw[List.drop_set_of_lt (by omega),←Nat.add_assoc]
       have:=congrArg (List.drop 1) hp.out.2.2.2.2.1
       simpa[Nat.add_comm,Nat.add_left_comm] using this,by rw[drop_set_at]; exact HST.out⟩,ZH (hip.out.set _ _)⟩,by simp[intOf]; omega⟩
     ·have e2:((u:Int)-(bw:Int)-(L:Int)<0)=False:=eq_false hneg
      have hst:=sub_step (s:=p.drop i) (u:=o.drop i) (v:=vl) (k:=k) (q:=q) (x:=x) (b2:=0) (by rw[List.length_drop,hp.out.2.2.1]; omega) hp.out.2.2.2.2.2 (by rw[←HD.out.1]; exact HC.out) (by rw[getD_drop,←HD.out.2]; have:=HBR.out.1.2 hneg; omega)
      have HST:=ZH hst
      clear hst hneg
      go_wp2_with fail
      have hv:Value.int .u32 (((u:Int)-(bw:Int)-(L:Int))%4294967296)=u32V x:=by unfold u32V; rw[HBR.out.2]
      rw[hv]
      exact ⟨⟨k+1,M,0,p.set (i+k) x,by omega,rfl,rfl,by congr 1,by omega,HNC.out,ZH ⟨hp.out.1.set (by rw[hp.out.2.2.1]; omega) x,hp.out.2.1.set _ hx2,by rw[List.length_set]; exact hp.out.2.2.1,by rw[take_set_at]; exact hp.out.2.2.2.1,by
       rw[List.drop_set_of_lt (by omega),←Nat.add_assoc]
       have:=congrArg (List.drop 1) hp.out.2.2.2.2.1
       simpa[Nat.add_comm,Nat.add_left_comm] using this,by rw[drop_set_at]; exact HST.out⟩,ZH (hip.out.set _ _)⟩,by simp[intOf]; omega⟩
    ·obtain rfl:k=n:=by omega
     have g0:=hp.out.1.at (i:=i+k) (by rw[hp.out.2.2.1]; omega)
     have g1:=World.rowIs.frozen hp.out.1 (i+k)
     have e0:p.getD (i+k) 0=o.getD (i+k) 0:=by
      have:=congrArg (fun l=>l.getD 0 0) hp.out.2.2.2.2.1
      simpa[List.getD_eq_getElem?_getD] using this
     rw[e0,←HU.out.1] at g0
     unfold u32V at g0
     have hU:val ((o.drop i).take (k+1))=val ((o.drop i).take k)+pw k*un:=by rw[take_step,getD_drop,←HU.out.1]
     have hinv:=hp.out.2.2.2.2.2
     rw[List.take_of_length_le (l:=vl) (by rw[HO.out.2.2]; exact Nat.le_refl _)] at hinv
     have hap:val ((p.drop i).take k)<pw k:=by
      have:=val_lt ((hp.out.2.1.drop i).take k)
      rw[List.length_take,List.length_drop,Nat.min_eq_left (by rw[hp.out.2.2.1]; omega)] at this
      exact this
     have hVp:val vl≤pw k:=by
      have:=val_lt HT.out.1
      rw[HO.out.2.2] at this
      exact Nat.le_of_lt this
     have hk0:(0:Int)≤(k:Int):=by omega
     by_cases hneg:(un:Int)-(bw:Int)-(cy:Int)<0
     ·have hw:=sub_wrong (U:=val ((o.drop i).take (k+1))) (V:=val vl) (P:=pw k) (a:=val ((p.drop i).take k)) (q:=q) (cb:=cy+bw) (un:=un) (by rw[hU,Nat.mul_comm un,Nat.add_sub_cancel,Nat.mul_comm (cy+bw)]; omega) (by rw[hU,Nat.mul_comm un]; omega) (by omega) hVp hap HN.out.1
      have hq0:1≤q:=hw.2.1
      have hx:((un:Int)-(bw:Int)-(cy:Int))%4294967296=4294967295:=by have:=hw.1; omega
      have e2:((0:Int)≤(un:Int)-(bw:Int)-(cy:Int))=False:=eq_false (by omega)
      have e3:((cy:Int)≤(un:Int)-(bw:Int))=False:=eq_false (by omega)
      have hrow:=hp.out.1.set (i:=i+k) (by rw[hp.out.2.2.1]; omega) 4294967295
      have HW:=ZH hw
      have HR0:=ZH hrow
      clear hinv hU hap hVp hw hrow e0 hneg
      go_upto_region 21 with fail
      rw[hx]
      obtain ⟨wt,hwt⟩:∃wt,wt=wr.setCell ⟨g,i+k,none⟩ (.int .u32 4294967295):=⟨_,rfl⟩
      obtain ⟨r0,hr0⟩:∃r0,r0=p.set (i+k) 4294967295:=⟨_,rfl⟩
      have HWT:=ZH (show InPlace g w wt∧DigRow wt g r0∧Ok r0∧r0.length=o.length∧r0.take i=o.take i∧(r0.drop i).take k=(p.drop i).take k∧r0.getD (i+k) 0=4294967295∧r0.drop (i+k+1)=o.drop (i+k+1) by
       rw[hwt,hr0]
       refine ⟨hip.out.set _ _,HR0.out,hp.out.2.1.set _ (by omega),by rw[List.length_set]; exact hp.out.2.2.1,by rw[take_set_at]; exact hp.out.2.2.2.1,?_,?_,?_⟩
       ·rw[drop_set_at,List.take_set,List.set_eq_of_length_le (by rw[List.length_take]; omega)]
       ·rw[List.getD_eq_getElem?_getD,List.getElem?_set_self (by rw[hp.out.2.2.1]; omega)]
        rfl
       ·rw[List.drop_set_of_lt (by omega)]
        have:=congrArg (List.drop 1) hp.out.2.2.2.2.1
        simpa[Nat.add_comm,Nat.add_left_comm] using this)
      rw[←hwt]
      clear hwt hr0 hx g0 g1
      go_wp2_with fail
      go_loopw [9,139] (fun a c wr=>∃(j cy:Nat) (r:List Nat),j≤k∧a=.int .u64 cy∧c=.int .i64 j∧cy≤1∧Hid (DigRow wr g r∧Ok r∧r.length=o.length∧r.take i=o.take i∧r.drop (i+j)=r0.drop (i+j)∧val ((r.drop i).take j)+pw j*cy=val ((r0.drop i).take j)+val (vl.take j))∧Hid (InPlace g w wr)) (fun _ c _=>k-(intOf c).toNat)
      case atStart=>exact ⟨0,0,r0,Nat.zero_le _,rfl,rfl,by omega,ZH ⟨HWT.out.2.1,HWT.out.2.2.1,HWT.out.2.2.2.1,HWT.out.2.2.2.2.1,rfl,by simp[val]⟩,ZH HWT.out.1⟩
      case round=>
       obtain ⟨j,c2,r,hj,rfl,rfl,hc2,hr,hir⟩:=hrel
       by_cases hlt2:j<k
       ·have y1:=(hir.out.cell (p:=⟨h,off+j,none⟩) hgh).trans (HV.out j hlt2)
        have g0:=hr.out.1.at (i:=i+j) (by rw[hr.out.2.2.1]; omega)
        have g1:=World.rowIs.frozen hr.out.1 (i+j)
        have e0:r.getD (i+j) 0=r0.getD (i+j) 0:=by
         have:=congrArg (fun l=>l.getD 0 0) hr.out.2.2.2.2.1
         simpa[List.getD_eq_getElem?_getD] using this
        obtain ⟨d,hd⟩:∃d,d=vl.getD j 0:=⟨_,rfl⟩
        obtain ⟨u,hu⟩:∃u,u=r0.getD (i+j) 0:=⟨_,rfl⟩
        have hd2:d<4294967296:=by rw[hd]; exact HT.out.1.at j
        have hu2:u<4294967296:=by rw[hu]; exact HWT.out.2.2.1.at (i+j)
        rw[←hd] at y1
        rw[e0,←hu] at g0
        unfold u32V at y1 g0
        obtain ⟨C,hC⟩:∃C,C=c2+(u+d):=⟨_,rfl⟩
        have hCi:(c2:Int)+((u:Int)+(d:Int))=(C:Int):=by omega
        have hCb:C≤8589934592:=by omega
        obtain ⟨L,hL⟩:∃L,L=C%4294967296:=⟨_,rfl⟩
        obtain ⟨M,hM⟩:∃M,M=C/4294967296:=⟨_,rfl⟩
        have hLi:(C:Int)%4294967296=(L:Int):=by omega
        have hMi:(C:Int)/4294967296=(M:Int):=by omega
        have hL2:L<4294967296:=by omega
        have hM2:M≤1:=by omega
        have hst:=back_step (s:=r.drop i) (u:=r0.drop i) (v:=vl) (k:=j) (c:=c2) (by rw[List.length_drop,hr.out.2.2.1]; omega) hr.out.2.2.2.2.2
        rw[getD_drop,←hd,←hu,←hC,←hL,←hM] at hst
        have HST:=ZH hst
        have hi0:(0:Int)≤(j:Int):=by omega
        have hi1:(j:Int)<(k:Int):=by omega
        have hi2:(j:Int)<(k:Int)+1:=by omega
        clear hd hu hC hL hM hst e0
        go_wp2_with fail
        have hv:Value.int .u32 (L:Int)=u32V L:=rfl
        rw[hv]
        exact ⟨⟨j+1,M,r.set (i+j) L,by omega,rfl,by congr 1,hM2,ZH ⟨hr.out.1.set (by rw[hr.out.2.2.1]; omega) L,hr.out.2.1.set _ hL2,by rw[List.length_set]; exact hr.out.2.2.1,by rw[take_set_at]; exact hr.out.2.2.2.1,by
         rw[List.drop_set_of_lt (by omega),←Nat.add_assoc]
         have:=congrArg (List.drop 1) hr.out.2.2.2.2.1
         simpa[Nat.add_comm,Nat.add_left_comm] using this,by rw[drop_set_at]; exact HST.out⟩,ZH (hir.out.set _ _)⟩,by simp[intOf]; omega⟩
       ·obtain rfl:j=k:=by omega
        have g0:=hr.out.1.at (i:=i+j) (by rw[hr.out.2.2.1]; omega)
        have g1:=World.rowIs.frozen hr.out.1 (i+j)
        have e0:r.getD (i+j) 0=r0.getD (i+j) 0:=by
         have:=congrArg (fun l=>l.getD 0 0) hr.out.2.2.2.2.1
         simpa[List.getD_eq_getElem?_getD] using this
        rw[e0,HWT.out.2.2.2.2.2.2.1] at g0
        unfold u32V at g0
        have hinv:=hr.out.2.2.2.2.2
        rw[List.take_of_length_le (l:=vl) (by rw[HO.out.2.2]; exact Nat.le_refl _),HWT.out.2.2.2.2.2.1] at hinv
        have hap:val ((r.drop i).take j)<pw j:=by
         have:=val_lt ((hr.out.2.1.drop i).take j)
         rw[List.length_take,List.length_drop,Nat.min_eq_left (by rw[hr.out.2.2.1]; omega)] at this
         exact this
        obtain rfl:c2=1:=by
         rcases Nat.lt_or_ge c2 1 with h9 | h9
         ·exfalso
          obtain rfl:c2=0:=by omega
          have:=HW.out.2.2.1
          rw[Nat.mul_zero] at hinv
          omega
         ·omega
        have hA:val ((r.drop i).take j)=val ((p.drop i).take j)+val vl-pw j:=by omega
        have hrow:=hr.out.1.set (i:=i+j) (by rw[hr.out.2.2.1]; omega) 0
        have HR1:=ZH (ZN hrow hA)
        have hqm:((q:Int)-1)%4294967296=(q:Int)-1:=by omega
        clear hinv hap hA hrow e0
        go_wp2_with fail
        go_ret
        refine ⟨q-1,r.set (i+j) 0,?_,by omega,HR1.out.1,hr.out.2.1.set _ (by omega),by rw[List.length_set]; exact hr.out.2.2.1,by rw[take_set_at]; exact hr.out.2.2.2.1,?_,?_,?_,hir.out.set _ _⟩
        ·show Ending.returned (.int .u32 ((q:Int)-1))=_
         rw[show ((q-1:Nat):Int)=(q:Int)-1 by omega]
        ·rw[List.drop_set_of_lt (by omega),←HWT.out.2.2.2.2.2.2.2]
         have:=congrArg (List.drop 1) hr.out.2.2.2.2.1
         simpa[Nat.add_comm,Nat.add_left_comm] using this
        ·rw[drop_set_at,set_val (by rw[List.length_drop,hr.out.2.2.1]; omega),Nat.mul_zero,Nat.add_zero,HR1.out.2]
         exact HW.out.2.2.2.1
        ·rw[drop_set_at,set_val (by rw[List.length_drop,hr.out.2.2.1]; omega),Nat.mul_zero,Nat.add_zero,HR1.out.2]
         exact HW.out.2.2.2.2
     ·have hT:∃T:Nat,(T:Int)=(un:Int)-(bw:Int)-(cy:Int):=⟨((un:Int)-(bw:Int)-(cy:Int)).toNat,by omega⟩
      obtain ⟨T,hT⟩:=hT
      have hw:=sub_right (U:=val ((o.drop i).take (k+1))) (V:=val vl) (P:=pw k) (a:=val ((p.drop i).take k)) (q:=q) (cb:=cy+bw) (un:=un) (t:=T) (by rw[hU,Nat.mul_comm un,Nat.add_sub_cancel,Nat.mul_comm (cy+bw)]; omega) (by rw[hU,Nat.mul_comm un]; omega) (by omega) HN.out.2
      have hqq:q<4294967296:=by
       rcases Nat.lt_or_ge q 4294967296 with h9 | h9
       ·exact h9
       ·exfalso
        have h8:4294967296*val vl≤q*val vl:=Nat.mul_le_mul_right _ h9
        have h7:=HT.out.2.2
        omega
      have hT2:T<4294967296:=by omega
      have e2:((0:Int)≤(T:Int))=True:=eq_true (by omega)
      have hTm:(T:Int)%4294967296=(T:Int):=by omega
      have hqm:(q:Int)%4294967296=(q:Int):=by omega
      have hrow:=hp.out.1.set (i:=i+k) (by rw[hp.out.2.2.1]; omega) T
      have HW:=ZH hw
      have HR0:=ZH hrow
      have hTi:(un:Int)-(bw:Int)-(cy:Int)=(T:Int):=hT.symm
      clear hinv hU hap hVp hw hrow e0 hneg hT
      go_wp2_with fail
      go_ret
      refine ⟨q,p.set (i+k) T,?_,hqq,?_,hp.out.2.1.set _ hT2,by rw[List.length_set]; exact hp.out.2.2.1,by rw[take_set_at]; exact hp.out.2.2.2.1,?_,?_,?_,hip.out.set _ _⟩
      ·rfl
      ·exact HR0.out
      ·rw[List.drop_set_of_lt (by omega)]
       have:=congrArg (List.drop 1) hp.out.2.2.2.2.1
       simpa[Nat.add_comm,Nat.add_left_comm] using this
      ·rw[drop_set_at,set_val (by rw[List.length_drop,hp.out.2.2.1]; omega)]
       exact HW.out.1
      ·rw[drop_set_at,set_val (by rw[List.length_drop,hp.out.2.2.1]; omega)]
       exact HW.out.2
end Go.Proofs.YtdcaaehapdhckaaGreatDoor
set_option maxRecDepth 100000
namespace Go.Num

theorem div_round {r r2 qd:List Nat} {i n q V:Nat} (ho:Ok r) (hl:r2.length=r.length) (hi:i+n+1≤r.length) (hq:i<qd.length) (hz:qd.getD i 0=0)
  (hV:V≤pw n) (hd:val (r.drop (i+1))<V) (ht:r2.take i=r.take i) (hdr:r2.drop (i+n+1)=r.drop (i+n+1))
  (hs:val ((r.drop i).take (n+1))=q*V+val ((r2.drop i).take (n+1))) (hr:val ((r2.drop i).take (n+1))<V) :
  val (r2.drop i)<V∧val r2+V*val (qd.set i q)=val r+V*val qd:=by
 have d0:=drop_val (l:=r) (k:=i) (by omega)
 have hb:=ho.at i
 have h1:val (r.drop i)<4294967296*V:=by omega
 have s0:=take_drop_val (r.drop i) (n+1) (by rw[List.length_drop]; omega)
 have s2:=take_drop_val (r2.drop i) (n+1) (by rw[List.length_drop,hl]; omega)
 rw[List.drop_drop,show i+(n+1)=i+n+1 by omega] at s0 s2
 rw[hdr] at s2
 have hpn:pw (n+1)=4294967296*pw n:=rfl
 have h0:val (r.drop (i+n+1))=0:=by
  rcases Nat.eq_zero_or_pos (val (r.drop (i+n+1))) with h | h
  ·exact h
  ·exfalso
   have h2:pw (n+1)*1≤pw (n+1)*val (r.drop (i+n+1)):=Nat.mul_le_mul_left _ h
   have h3:4294967296*V≤4294967296*pw n:=Nat.mul_le_mul_left _ hV
   omega
 rw[h0,Nat.mul_zero,Nat.add_zero] at s0 s2
 refine ⟨by omega,?_⟩
 have e1:=take_drop_val r i (by omega)
 have e2:=take_drop_val r2 i (by omega)
 rw[ht,s2] at e2
 rw[s0,hs,Nat.mul_add] at e1
 have e3:=set_full q hq
 rw[hz,Nat.mul_zero,Nat.add_zero] at e3
 rw[e3,Nat.mul_add,e2,e1,Nat.mul_left_comm V (pw i),Nat.mul_comm V q]
 omega
theorem seg_less {r:List Nat} {i n V:Nat} (ho:Ok r) (hi:i+n+1≤r.length) (hd:val (r.drop (i+1))<V):val ((r.drop i).take (n+1))<4294967296*V:=by
 have d0:=drop_val (l:=r) (k:=i) (by omega)
 have hb:=ho.at i
 have s0:=take_drop_val (r.drop i) (n+1) (by rw[List.length_drop]; omega)
 omega
theorem div_top {b vl:List Nat} {n s:Nat} (hb:b.length=n+1) (okb:Ok b) (hs:s<32) (h1:2147483648≤b.getD n 0*2^s) (h2:b.getD n 0*2^s<4294967296) (okv:Ok vl) (hN:Norm vl) (hv:val vl=2^s*val b) :
  vl.length=n+1∧2147483648≤vl.getD n 0∧2147483648*pw n≤val vl∧val vl<pw (n+1):=by
 have d0:=take_drop_val b n (by omega)
 rw[drop_val (by omega),List.drop_eq_nil_of_le (by omega),val,Nat.mul_zero,Nat.add_zero] at d0
 have t0:=val_lt (okb.take n)
 rw[List.length_take,Nat.min_eq_left (by omega)] at t0
 have hlo:2147483648*pw n≤val vl:=by
  rw[hv,d0,Nat.mul_add,Nat.mul_left_comm,Nat.mul_comm (2^s) (b.getD n 0)]
  have:pw n*2147483648≤pw n*(b.getD n 0*2^s):=Nat.mul_le_mul_left _ h1
  omega
 have hhi:val vl<pw (n+1):=by
  have e0:(4294967296:Nat)=2^s*2^(32-s):=by rw[←Nat.pow_add,show s+(32-s)=32 by omega]
  have h3:b.getD n 0<2^(32-s):=by
   rw[e0,Nat.mul_comm] at h2
   exact Nat.lt_of_mul_lt_mul_left h2
  have h4:val b<pw n*2^(32-s):=by
   have:pw n*(b.getD n 0+1)≤pw n*2^(32-s):=Nat.mul_le_mul_left _ h3
   rw[Nat.mul_add,Nat.mul_one] at this
   omega
  have h5:2^s*val b<2^s*(pw n*2^(32-s)):=Nat.mul_lt_mul_of_pos_left h4 (Nat.pow_pos (by omega))
  rw[Nat.mul_left_comm,←e0,Nat.mul_comm (pw n)] at h5
  rw[hv]
  exact h5
 have hl1:vl.length≤n+1:=norm_length hN hhi
 have hp:=pw_pos n
 have hl2:n<vl.length:=by
  rcases Nat.lt_or_ge n vl.length with h | h
  ·exact h
  ·have h6:=val_lt okv
   have h7:=pw_le h
   omega
 have hl:vl.length=n+1:=by omega
 refine ⟨hl,?_,hlo,hhi⟩
 have d1:=take_drop_val vl n (by omega)
 rw[drop_val (by omega),List.drop_eq_nil_of_le (by omega),val,Nat.mul_zero,Nat.add_zero] at d1
 have t1:=val_lt (okv.take n)
 rw[List.length_take,Nat.min_eq_left (by omega)] at t1
 rcases Nat.lt_or_ge (vl.getD n 0) 2147483648 with h | h
 ·exfalso
  have:pw n*(vl.getD n 0+1)≤pw n*2147483648:=Nat.mul_le_mul_left _ h
  rw[Nat.mul_add,Nat.mul_one] at this
  omega
 ·exact h
theorem div_start {r a:List Nat} {n k s V:Nat} (ho:Ok a) (hl:a.length=k+n) (hr:r.length=a.length+1) (hs:s<32) (hv:val r=2^s*val a) (hV:2147483648*pw n≤V):val (r.drop k)<V:=by
 have h1:=take_drop_val r k (by omega)
 have h2:=val_lt ho
 rw[hl,pw_add] at h2
 have h3:2^s≤2147483648:=Nat.pow_le_pow_right (n:=2) (by omega) (show s≤31 by omega)
 have h4:2^s*val a<2^s*(pw k*pw n):=Nat.mul_lt_mul_of_pos_left h2 (Nat.pow_pos (by omega))
 have h5:pw k*val (r.drop k)<pw k*(2^s*pw n):=by rw[Nat.mul_left_comm (pw k)]; omega
 have h6:val (r.drop k)<2^s*pw n:=Nat.lt_of_mul_lt_mul_left h5
 have h7:2^s*pw n≤2147483648*pw n:=Nat.mul_le_mul_right _ h3
 omega
theorem div_end {A b q R s:Nat} (h:R+2^s*b*q=2^s*A) (hr:R<2^s*b):∃m,R=2^s*m∧m<b∧A=b*q+m:=by
 have hp:0<2^s:=Nat.pow_pos (by omega)
 have h1:2^s*(b*q)≤2^s*A:=by rw[←Nat.mul_assoc]; omega
 have h2:b*q≤A:=Nat.le_of_mul_le_mul_left h1 hp
 refine ⟨A-b*q,?_,?_,by omega⟩
 ·rw[Nat.mul_sub,←Nat.mul_assoc]
  omega
 ·have h3:2^s*(A-b*q)<2^s*b:=by rw[Nat.mul_sub,←Nat.mul_assoc]; omega
  exact Nat.lt_of_mul_lt_mul_left h3
end Go.Num
set_option maxRecDepth 100000
namespace Go.Proofs.YtdcaaehapdhckaaGreatDoor
open Go.RowKit Go.Num
set_option maxHeartbeats 8000000

def DivPost (w:World) (a b:List Nat) (e:Ending) (w':World):Prop:=∃qv rv q r,e=.returned (.tuple #[qv,rv])∧MagIn w' qv q∧Norm q∧MagIn w' rv r∧Norm r∧val a=val b*val q+val r∧val r<val b∧Below w.heap.size w w'
theorem lead_is {t:Nat} (h0:t≠0) (h1:t<4294967296):∃s:Nat,s<32∧(32-(Lib.bitLen t:Int))=(s:Int)∧2147483648≤t*2^s∧t*2^s<4294967296:=by
 obtain ⟨a,b,c⟩:=Lib.bitLenAux_bounds 64 t (by omega) h0
 have hL:Lib.bitLen t≤32:=Lib.bitLen_le t 32 (by omega) (by omega)
 unfold Lib.bitLen at *
 generalize Lib.bitLenAux 64 t=L at *
 obtain ⟨k,rfl⟩:∃k,L=k+1:=⟨L-1,by omega⟩
 rw[Nat.add_sub_cancel] at b
 refine ⟨32-(k+1),by omega,by omega,?_,?_⟩
 ·have:2^k*2^(32-(k+1))≤t*2^(32-(k+1)):=Nat.mul_le_mul_right _ b
  rw[←Nat.pow_add,show k+(32-(k+1))=31 by omega] at this
  exact this
 ·have:t*2^(32-(k+1))<2^(k+1)*2^(32-(k+1)):=Nat.mul_lt_mul_of_pos_right c (Nat.pow_pos (by omega))
  rw[←Nat.pow_add,show k+1+(32-(k+1))=32 by omega] at this
  exact this
theorem one_digit (w:World) {m:Nat} (h:m<4294967296):MagIn (w.alloc (.cells #[.int .u32 (m:Int)] 145)) (.slice (some ⟨w.heap.size,0,none⟩) 1 1) [m]:=by
 refine ⟨_,_,rfl,Nat.le_refl _,by unfold maxLen; simp,fun d hd=>by rw[List.mem_singleton.1 hd]; exact h,fun _=>⟨w.heap.size,0,rfl,by simp,fun j hj=>?_⟩⟩
 rw[ZI (ZW w _)]
 obtain rfl:j=0:=by simp at hj; exact hj
 simp[u32V]
theorem norm_len_le {a b:List Nat} (ha:Ok a) (hb:Norm b) (h:val b≤val a):b.length≤a.length:=by
 rcases Nat.lt_or_ge a.length b.length with h1 | h1
 ·have:=norm_short ha hb h1
  omega
 ·exact h1
theorem divide_any {w:World} {va vb:Value} {a b:List Nat} (ha:MagIn w va a) (hb:MagIn w vb b) (na:Norm a) (nb:Norm b) (hb0:val b≠0) (hk:a.length≤900000) :
  Calls Tryz.prog 175 #[va,vb] w (DivPost w a b):=by
 have HO:=ZH (order_any ha hb na nb)
 have HM:=ZH (ZN ha (ZN hb (ZN na (ZN nb hb0))))
 by_cases hlt:val a<val b
 ·have hc:=cmp_lt hlt
  have hci:((-1:Int)<0)=True:=by simp
  rw[hc] at HO
  obtain ⟨ao,c,rfl,-⟩:=mag_len ha
  obtain ⟨bo,c',rfl,-⟩:=mag_len hb
  have HL:=ZH hlt
  clear hc hlt ha hb na nb hb0
  generalize a.length=N at *
  generalize b.length=M at *
  go_enter Tryz.func175,Tryz.ntmps175
  go_wp2_with fail
  refine HO.out.mono ?_
  rintro e w1 ⟨rfl,hb1⟩
  have H1:=ZH hb1
  clear hb1
  go_wp2_with fail
  go_ret2
  exact ⟨_,_,[],a,rfl,mag_nil _,norm_nil,HM.out.1.below H1.out,HM.out.2.2.1,by simp[val],HL.out,H1.out⟩
 ·have hci:((cmpI (val a:Int) (val b:Int))<0)=False:=by
   refine eq_false ?_
   unfold cmpI
   split
   ·omega
   ·split<;>omega
  obtain ⟨ao,c,rfl,hc1,hc2,oa,hca⟩:=ha
  obtain ⟨bo,c',rfl,hc3,hc4,ob,hcb⟩:=hb
  have hll:=norm_len_le oa nb (by omega)
  have hbl:0<b.length:=by
   rcases Nat.eq_zero_or_pos b.length with h | h
   ·rw[List.length_eq_zero_iff.1 h] at hb0
    exact absurd rfl hb0
   ·exact h
  obtain ⟨bb,offb,rfl,hltb,hcellb⟩:=hcb hbl
  obtain ⟨ba,offa,rfl,hlta,hcella⟩:=hca (by omega)
  have HA:=ZH hcella
  have HB:=ZH hcellb
  have HOA:=ZH (ZN oa (ZN ob (ZN nb hb0)))
  unfold maxLen at hc2 hc4
  obtain ⟨N,hN⟩:∃N,N=a.length:=⟨_,rfl⟩
  obtain ⟨M,hM⟩:∃M,M=b.length:=⟨_,rfl⟩
  rw[←hN] at hc1 HA hk hll HO HM
  rw[←hM] at hc3 HB hbl hll HO HM
  rw[←hN,←hM]
  have HN:=ZH (ZN hN hM)
  clear hca hcb hcella hcellb oa ob nb na hb0 hlt
  by_cases h1:M=1
  ·have e1:((M:Int)==1)=true:=by simp[h1]
   have y0:=HB.out 0 (by omega)
   rw[Nat.add_zero] at y0
   obtain ⟨d,hd⟩:∃d,d=b.getD 0 0:=⟨_,rfl⟩
   have hd2:d<4294967296:=by rw[hd]; exact HOA.out.2.1.at 0
   rw[←hd] at y0
   unfold u32V at y0
   have hbv:val b=d:=by
    have hb1:b.length=1:=by rw[←hM]; exact h1
    match b,hb1 with
    | [x],_=>simp[val] at hd⊢; exact hd.symm
   have hd0:0<d:=by have:=HOA.out.2.2.2; omega
   have hi0:(0:Int)<(M:Int):=by omega
   have hi1:0<M:=hbl
   have HBV:=ZH hbv
   have hM1:=ZH h1
   clear hd hbv hN hM h1
   go_enter Tryz.func175,Tryz.ntmps175
   go_wp2_with fail
   refine HO.out.mono ?_
   rintro e w1 ⟨rfl,hb1⟩
   have y0:=ZJ hb1 y0
   have H1:=ZH hb1
   clear hb1
   go_wp2_with fail
   refine (short_any (HM.out.1.below H1.out) (by rw[←HN.out.1]; omega) hd0 hd2).mono ?_
   rintro e w2 ⟨v2,q2,m2,rfl,hq2,hnq,hv2,hm2,-,hb2⟩
   have H2:=ZH (ZN hq2 (ZN hnq (ZN hv2 (ZN hm2 hb2))))
   have HS:=ZH (one_digit w2 (show m2<4294967296 by omega))
   clear hq2 hnq hv2 hm2 hb2
   go_wp2_with fail
   refine (trim_any HS.out).mono ?_
   rintro e w3 ⟨ao3,c3,n3,hve,rfl,rfl,hn3,hN3,hv3⟩
   simp only[Value.slice.injEq] at hve
   obtain ⟨rfl,-,rfl⟩:=hve
   have hbel:Below w.heap.size w (w2.alloc (.cells #[.int .u32 (m2:Int)] 145)):=(H1.out.trans (H2.out.2.2.2.2.mono H1.out.size)).alloc (Nat.le_trans H1.out.size H2.out.2.2.2.2.size) _
   have H3:=ZH (ZN (HS.out.take hn3) (ZN hN3 (ZN hv3 hbel)))
   clear hn3 hN3 hv3 hbel
   go_wp2_with fail
   go_ret2
   refine ⟨_,_,q2,_,rfl,H2.out.1.below ((ZR _ w2).alloc (Nat.le_refl _) _),H2.out.2.1,H3.out.1,H3.out.2.1,?_,?_,H3.out.2.2.2⟩
   ·rw[H3.out.2.2.1,H2.out.2.2.1,HBV.out]
    simp[val]
   ·rw[H3.out.2.2.1,HBV.out]
    simpa[val] using H2.out.2.2.2.1
  ·have e1:((M:Int)==1)=false:=ZQ.2 (by omega)
   have hM2:2≤M:=by omega
   have y0:=HB.out (M-1) (by omega)
   obtain ⟨t,ht⟩:∃d,d=b.getD (M-1) 0:=⟨_,rfl⟩
   have ht2:t<4294967296:=by rw[ht]; exact HOA.out.2.1.at _
   have ht0:t≠0:=by rw[ht]; exact HOA.out.2.2.1 (M-1) (by rw[←HN.out.2]; omega)
   rw[←ht] at y0
   unfold u32V at y0
   obtain ⟨s,hs,hsi,hs1,hs2⟩:=lead_is ht0 ht2
   have HT:=ZH (show 2147483648≤b.getD (M-1) 0*2^s∧b.getD (M-1) 0*2^s<4294967296 by rw[←ht]; exact ⟨hs1,hs2⟩)
   have HSI:=ZH hsi
   have hj0:(0:Int)≤(M:Int)-1:=by omega
   have hj1:(M:Int)-1<(M:Int):=by omega
   clear ht hN hM h1 hs1 hs2 hsi ht0
   go_enter Tryz.func175,Tryz.ntmps175
   go_wp2_with fail
   refine HO.out.mono ?_
   rintro e w1 ⟨rfl,hb1⟩
   have y0:=ZJ hb1 y0
   have H1:=ZH hb1
   clear hb1
   go_wp2_with fail
   refine (Tryz.bits_LeadingZeros32 (t:Int) w1 (by omega) (by omega)).mono ?_
   rintro e w1' ⟨rfl,rfl⟩
   rw[show (t:Int).toNat=t from rfl,HSI.out]
   clear y0 ht2 e1 hj0 hj1
   go_wp2_with fail
   refine (raised_any (HM.out.1.below H1.out) (by rw[←HN.out.1]; omega) hs).mono ?_
   rintro e w2 ⟨g1,r1,rfl,hg1,hr1,ok1,hl1,hv1,hb2⟩
   rw[←HN.out.1] at hl1⊢
   have H2:=ZH (ZN hr1 (ZN ok1 (ZN hl1 (ZN hv1 hb2))))
   have HG1:=ZH (Nat.le_trans H1.out.size hg1)
   clear hr1 ok1 hl1 hv1 hb2 hg1
   go_wp2_with fail
   refine (raised_any ((HM.out.2.1.below H1.out).below H2.out.2.2.2.2) (by rw[←HN.out.2]; omega) hs).mono ?_
   rintro e w3 ⟨g3,r3,rfl,hg3,hr3,ok3,hl3,hv3,hb3⟩
   have HT3:=ZH (trim_any (hr3.mag ok3 (by rw[hl3,←HN.out.2]; unfold maxLen; omega)))
   rw[←HN.out.2] at hl3⊢
   have H3:=ZH (ZN hr3 (ZN ok3 (ZN hl3 (ZN hv3 hb3))))
   have HG3:=ZH hg3
   clear hr3 ok3 hl3 hv3 hb3 hg3
   go_wp2_with fail
   rw[←H3.out.2.2.1]
   refine HT3.out.mono ?_
   rintro e w4 ⟨ao4,c4,n4,hve,rfl,rfl,hn4,hN4,hv4⟩
   simp only[Value.slice.injEq] at hve
   obtain ⟨rfl,-,rfl⟩:=hve
   obtain ⟨hvl,htop,hVlo,hVhi⟩:=div_top (n:=M-1) (by rw[←HN.out.2]; omega) HOA.out.2.1 hs HT.out.1 HT.out.2 (H3.out.2.1.take n4) hN4 (hv4.trans H3.out.2.2.2.1)
   obtain rfl:n4=M:=by rw[List.length_take,Nat.min_eq_left hn4] at hvl; omega
   obtain ⟨vl,hvle⟩:∃vl,vl=r3.take n4:=⟨_,rfl⟩
   have hcells:∀j,j<n4→w4.cell? ⟨g3,0+j,none⟩=some (u32V (vl.getD j 0)):=fun j hj=>by
    rw[Nat.zero_add,H3.out.1.at (by omega),hvle,List.getD_eq_getElem?_getD (l:=r3.take n4),List.getElem?_take_of_lt hj,←List.getD_eq_getElem?_getD]
   rw[←hvle] at hvl htop hVlo hVhi hv4
   rw[show n4-1+1=n4 by omega] at hvl hVhi
   have HV:=ZH (show vl.length=n4∧Ok vl∧2147483648≤vl.getD (n4-1) 0∧2147483648*pw (n4-1)≤val vl∧val vl<pw n4∧val vl=2^s*val b from ⟨hvl,by rw[hvle]; exact H3.out.2.1.take n4,htop,hVlo,hVhi,hv4.trans H3.out.2.2.2.1⟩)
   have HC:=ZH hcells
   have hg31:¬g3=g1:=by
    have:=World.rowIs.lt H2.out.1
    have:=HG3.out
    omega
   have hst0:=div_start (r:=r1) (a:=a) (n:=n4-1) (k:=N-n4+1) (V:=val vl) HOA.out.1 (by rw[←HN.out.1]; omega) (by rw[H2.out.2.2.1,HN.out.1]) hs H2.out.2.2.2.1 hVlo
   have hr1':DigRow w4 g1 r1:=World.rowIs.of_block H2.out.1 (H3.out.2.2.2.2.block g1 (World.rowIs.lt H2.out.1))
   have hbel4:Below w.heap.size w w4:=(H1.out.trans (H2.out.2.2.2.2.mono H1.out.size)).trans (H3.out.2.2.2.2.mono (Nat.le_trans H1.out.size H2.out.2.2.2.2.size))
   have H4:=ZH (ZN hr1' (ZN hst0 (ZN hbel4 (ZN hn4 hN4))))
   have HR3:=ZH (show g3<w4.heap.size from World.rowIs.lt H3.out.1)
   have hcap:n4≤r3.length:=by rw[H3.out.2.2.1]; omega
   have hcap2:r3.length≤1000000:=by rw[H3.out.2.2.1]; omega
   clear hcells hvl htop hVlo hVhi hvle hst0 hr1' hbel4 hv4 hn4 hN4
   generalize r3.length=c3 at *
   go_upto_region 8 with fail
   obtain ⟨D,hD⟩:∃D,D=N-n4:=⟨_,rfl⟩
   have hD1:D+n4≤N:=by omega
   have hD2:N≤D+n4:=by omega
   have hmk:=make_dig (N-n4+1) (by omega) w4
   rw[show ((N-n4+1:Nat):Int)=(N:Int)-(n4:Int)+1 by omega] at hmk
   have HD:=ZH hD
   clear hD
   go_upto_region 9 with fail
   rw[←HD.out]
   obtain ⟨g2,hg2⟩:∃g,g=w4.heap.size:=⟨_,rfl⟩
   have hrow:=dig_made w4 (D+1)
   have hal:Below w4.heap.size w4 (w4.alloc (.cells (madeCells #[.int .u32 0] (D+1)) 145)):=(ZR _ w4).alloc (Nat.le_refl _) _
   rw[←hg2] at hrow
   rw[←hg2]
   have h21:¬g2=g1:=by have:=World.rowIs.lt H4.out.1; omega
   have h23:¬g2=g3:=by have:=HR3.out; omega
   have HG2:=ZH (show w.heap.size≤g2 from by rw[hg2]; exact H4.out.2.2.1.size)
   have H5:=ZH (ZN hal (ZN hrow (ZN (World.rowIs.of_block H4.out.1 (hal.block g1 (World.rowIs.lt H4.out.1))) (H4.out.2.2.1.trans (hal.mono H4.out.2.2.1.size)))))
   have HC5:=ZH (show ∀j,j<n4→(w4.alloc (.cells (madeCells #[.int .u32 0] (D+1)) 145)).cell? ⟨g3,0+j,none⟩=some (u32V (vl.getD j 0)) from fun j hj=>(hal.cell (p:=⟨g3,0+j,none⟩) HR3.out).trans (HC.out j hj))
   generalize w4.alloc (.cells (madeCells #[.int .u32 0] (D+1)) 145)=w5 at *
   rw[←HD.out] at H4
   clear hmk hg2 hal hrow HD
   go_wp2_with fail
   go_loopw [11] (fun x wr=>∃(k:Nat) (y:Int) (r qd:List Nat),k≤D+1∧y=(k:Int)-1∧x=.int .i64 y∧Hid (DigRow wr g1 r∧Ok r∧r.length=N+1∧val (r.drop k)<val vl∧val r+val vl*val qd=val r1∧(∀j,j<k→qd.getD j 0=0))∧Hid (DigRow wr g2 qd∧Ok qd∧qd.length=D+1)∧Hid ((∀j,j<n4→wr.cell? ⟨g3,0+j,none⟩=some (u32V (vl.getD j 0)))∧Below w.heap.size w wr)) (fun x _=>(intOf x+1).toNat)
   case atStart=>
    refine ⟨D+1,(D:Int),r1,List.replicate (D+1) 0,Nat.le_refl _,by omega,by congr 1; try omega,ZH ⟨H5.out.2.2.1,H2.out.2.1,by rw[H2.out.2.2.1],H4.out.2.1,by rw[val_zero,Nat.mul_zero,Nat.add_zero],fun j hj=>by simp[List.getD_eq_getElem?_getD,hj]⟩,ZH ⟨H5.out.2.1,ok_zero _,by simp⟩,ZH ⟨HC5.out,H5.out.2.2.2⟩⟩
   case round=>
    obtain ⟨k,y,r,qd,hk1,hy,rfl,hr,hqd,hc⟩:=hrel
    cases k with
    | zero=>
     obtain rfl:y = -1:=by omega
     have e3:((0:Int)≤-1)=False:=by simp
     have hlt0:=hr.out.2.2.2.1
     rw[List.drop_zero] at hlt0
     obtain ⟨m,hm1,hm2,hm3⟩:=div_end (A:=val a) (b:=val b) (q:=val qd) (R:=val r) (s:=s) (by rw[←HV.out.2.2.2.2.2,hr.out.2.2.2.2.1,H2.out.2.2.2.1]) (by rw[←HV.out.2.2.2.2.2]; exact hlt0)
     have hmq:=hqd.out.1.mag hqd.out.2.1 (by rw[hqd.out.2.2]; unfold maxLen; omega)
     have hmr:=hr.out.1.mag hr.out.2.1 (by rw[hr.out.2.2.1]; unfold maxLen; omega)
     have HTQ:=ZH (trim_any hmq)
     have HMQ:=ZH (ZN hmq hmr)
     have HE:=ZH (ZN hm1 (ZN hm2 hm3))
     clear hlt0 hm1 hm2 hm3 hmq hmr hy
     go_wp2_with fail
     rw[←hqd.out.2.2]
     refine HTQ.out.mono ?_
     rintro e w6 ⟨ao6,c6,n6,hve,rfl,rfl,hn6,hN6,hv6⟩
     simp only[Value.slice.injEq] at hve
     obtain ⟨rfl,-,rfl⟩:=hve
     have H6:=ZH (ZN (HMQ.out.1.take hn6) (ZN hN6 hv6))
     have HTR:=ZH (trim_any HMQ.out.2)
     clear hn6 hN6 hv6
     go_wp2_with fail
     rw[←hr.out.2.2.1]
     refine HTR.out.mono ?_
     rintro e w7 ⟨ao7,c7,n7,hve,rfl,rfl,hn7,hN7,hv7⟩
     simp only[Value.slice.injEq] at hve
     obtain ⟨rfl,-,rfl⟩:=hve
     have hlen7:(r.take n7).length=n7:=by rw[List.length_take]; omega
     have hmr7:=HMQ.out.2.take hn7
     have hlow:=lowered_any (s:=s) (q:=m) (by rw[hlen7]; exact hmr7) (by rw[hlen7]; have:=hr.out.2.2.1; omega) hs (hv7.trans HE.out.1)
     rw[hlen7] at hlow
     have HLOW:=ZH hlow
     clear hn7 hN7 hv7 hmr7 hlow hlen7
     go_wp2_with fail
     refine HLOW.out.mono ?_
     rintro e w8 ⟨v8,r8,rfl,hm8,hn8,hv8,hl8,hb8⟩
     have H8:=ZH (ZN hm8 (ZN hn8 (ZN hv8 hb8)))
     clear hm8 hn8 hv8 hl8 hb8
     go_wp2_with fail
     go_ret2
     exact ⟨_,_,_,r8,rfl,H6.out.1.below H8.out.2.2.2,H6.out.2.1,H8.out.1,H8.out.2.1,by rw[H6.out.2.2,H8.out.2.2.1]; exact HE.out.2.2,by rw[H8.out.2.2.1]; exact HE.out.2.1,hc.out.2.trans (H8.out.2.2.2.mono hc.out.2.size)⟩
    | succ k=>
     obtain rfl:y=(k:Int):=by omega
     have e3:((0:Int)≤(k:Int))=True:=eq_true (by omega)
     have k0:(0:Int)≤(k:Int):=by omega
     have k1:(k:Int)<(D:Int)+1:=by omega
     have k2:(k:Int)≤(k:Int)+(n4:Int)+1:=by omega
     have k3:(k:Int)+(n4:Int)+1≤(N:Int)+1:=by omega
     have k4:¬(N:Int)+1=(k:Int):=by omega
     have k5:¬N+1=k:=by omega
     have k6:(0:Int)≤(k:Int)+(n4:Int)+1:=by omega
     clear hy
     go_wp2_with fail
     rw[show k+n4+1-k=n4+1 by omega]
     refine (digit_any hr.out.1 hr.out.2.1 (by rw[hr.out.2.2.1]; omega) (by rw[hr.out.2.2.1]; omega) hM2 HV.out.1 hc.out.1 hg31 HV.out.2.1 HV.out.2.2.1 (seg_less hr.out.2.1 (by rw[hr.out.2.2.1]; omega) hr.out.2.2.2.1)).mono ?_
     rintro e w6 ⟨q,r2,rfl,hq,hrow2,ok2,hl2,htk2,hdr2,hs2,hlt2,hip⟩
     have hqz:=hr.out.2.2.2.2.2 k (by omega)
     obtain ⟨hn1,hn2⟩:=div_round (i:=k) (n:=n4) (q:=q) (V:=val vl) (qd:=qd) hr.out.2.1 hl2 (by rw[hr.out.2.2.1]; omega) (by rw[hqd.out.2.2]; omega) hqz (Nat.le_of_lt HV.out.2.2.2.2.1) hr.out.2.2.2.1 htk2 hdr2 hs2 hlt2
     rw[hr.out.2.2.2.2.1] at hn2
     have hqrow:DigRow w6 g2 qd:=World.rowIs.of_block hqd.out.1 (hip.keep g2 h21)
     have g0:=hqrow.at (i:=k) (by rw[hqd.out.2.2]; omega)
     have g1':=World.rowIs.frozen hqrow k
     have hrow3:DigRow (w6.setCell ⟨g2,k,none⟩ (u32V q)) g1 r2:=World.rowIs.setOther hrow2 (fun e=>h21 e.symm) _
     have hbel:Below w.heap.size w w6:=hip.below w.heap.size w HG1.out hc.out.2
     have HF:=ZH (show DigRow (w6.setCell ⟨g2,k,none⟩ (u32V q)) g1 r2∧Ok r2∧r2.length=N+1∧val (r2.drop k)<val vl∧val r2+val vl*val (qd.set k q)=val r1∧(∀j,j<k→(qd.set k q).getD j 0=0) from ⟨hrow3,ok2,by rw[hl2,hr.out.2.2.1],hn1,hn2,fun j hj=>by
      rw[List.getD_eq_getElem?_getD,List.getElem?_set_ne (by omega),←List.getD_eq_getElem?_getD]
      exact hr.out.2.2.2.2.2 j (by omega)⟩)
     have HQ:=ZH (show DigRow (w6.setCell ⟨g2,k,none⟩ (u32V q)) g2 (qd.set k q)∧Ok (qd.set k q)∧(qd.set k q).length=D+1 from ⟨hqrow.set (by rw[hqd.out.2.2]; omega) q,hqd.out.2.1.set k hq,by rw[List.length_set]; exact hqd.out.2.2⟩)
     have HCC:=ZH (show (∀j,j<n4→(w6.setCell ⟨g2,k,none⟩ (u32V q)).cell? ⟨g3,0+j,none⟩=some (u32V (vl.getD j 0)))∧Below w.heap.size w (w6.setCell ⟨g2,k,none⟩ (u32V q)) from ⟨fun j hj=>(World.cell?_setCell_far _ _ _ _ h23).trans ((hip.cell (p:=⟨g3,0+j,none⟩) hg31).trans (hc.out.1 j hj)),hbel.setCell HG2.out _⟩)
     clear hq hrow2 ok2 hl2 htk2 hdr2 hs2 hlt2 hip hqz hn1 hn2 hqrow hrow3 hbel
     go_wp2_with fail
     exact ⟨⟨k,(k:Int)-1,r2,qd.set k q,by omega,rfl,rfl,HF,HQ,HCC⟩,by simp[intOf]⟩
theorem int_abs {neg:Bool} {l:List Nat}:(int neg l).natAbs=val l:=by unfold int; cases neg<;>simp
theorem Gcd_any {w:World} {va vb:Value} {x y:Int} {k:Nat} (ha:IntIn w va x k) (hb:IntIn w vb y k) (hk:k≤900000):Calls Tryz.prog 130 #[va,vb] w fun e w'=>∃v,e=.returned v∧IntIn w' v (Nat.gcd x.natAbs y.natAbs:Nat) k∧Below w.heap.size w w':=by
 obtain ⟨na,ao,ca,la,rfl,hma,hna,-,rfl,hka,hc1,hc2⟩:=int_sign ha
 obtain ⟨nb,bo,cb,lb,rfl,hmb,hnb,-,rfl,hkb,hc3,hc4⟩:=int_sign hb
 rw[int_abs,int_abs]
 obtain ⟨NA,hNA⟩:∃N,N=la.length:=⟨_,rfl⟩
 obtain ⟨NB,hNB⟩:∃N,N=lb.length:=⟨_,rfl⟩
 obtain ⟨wa,hwa⟩:∃wa,wa=((w.alloc (.cells #[.bool na,.slice ao NA ca] 45)).alloc (.cells #[.bool nb,.slice bo NB cb] 45)).alloc (.cells #[.bool false,.slice none 0 0] 45):=⟨_,rfl⟩
 obtain ⟨ba,hba⟩:∃b,b=w.heap.size:=⟨_,rfl⟩
 obtain ⟨bb,hbb⟩:∃b,b=w.heap.size+1:=⟨_,rfl⟩
 obtain ⟨bc,hbc⟩:∃b,b=w.heap.size+2:=⟨_,rfl⟩
 have hal:Below w.heap.size w wa:=by rw[hwa]; exact (((ZR _ w).alloc (Nat.le_refl _) _).alloc (by simp) _).alloc (by simp; omega) _
 obtain ⟨k0,k1,k2⟩:=three_made w #[.bool na,.slice ao NA ca] #[.bool nb,.slice bo NB cb] #[.bool false,.slice none 0 0] 45 45 45
 rw[←hwa,←hba] at k0
 rw[←hwa,←hbb] at k1
 rw[←hwa,←hbc] at k2
 have HBba:=ZH k0
 have HBbb:=ZH k1
 have HBbc:=ZH k2
 have HAL:=ZH hal
 have HW0:=ZH (ZR wa.heap.size wa)
 have HW:=ZH (ZN hwa (ZN hba (ZN hbb hbc)))
 have HGbc:=ZH (show w.heap.size≤bc by omega)
 have x1:=ZI k0 1
 have y1:=ZI k1 1
 simp at x1 y1
 have HM:=ZH (ZN (hma.below hal) (ZN (hmb.below hal) (ZN hna (ZN hnb (ZN hka (ZN hkb (ZN hNA hNB)))))))
 rw[←hNA] at hc1
 rw[←hNB] at hc3
 obtain ⟨G,hG⟩:∃G,G=Nat.gcd (val la) (val lb):=⟨_,rfl⟩
 rw[←hG,←hNA,←hNB]
 have HG:=ZH hG
 clear ha hb hma hmb hna hnb hka hkb hNA hNB hG
 clear hal hwa hba hbb hbc k0 k1 k2
 go_enter Tryz.func130,Tryz.ntmps130
 go_upto_region 1 with fail
 rw[←HW.out.1,←HW.out.2.2.2,←HW.out.2.2.1,←HW.out.2.1]
 clear HW
 go_quiet (fail)
 obtain ⟨wq,hwq⟩:∃wq,wq=wa.drewN nq:=⟨_,rfl⟩
 have HQ:=ZH (show Below wa.heap.size wa wq by rw[hwq]; exact below_drawn wa nq)
 rw[←hwq]
 clear hwq x1 y1
 go_wp2_with fail
 go_loopg [5,6] (val lb) (fun gk a b wr=>∃(l1 l2:List Nat) (a1 a2:Option Addr) (c1 c2:Nat),a=.slice a1 l1.length c1∧b=.slice a2 l2.length c2∧l1.length≤c1∧l2.length≤c2∧c1≤9223372036854775807∧c2≤9223372036854775807∧Hid (MagIn wr (.slice a1 l1.length c1) l1∧MagIn wr (.slice a2 l2.length c2) l2∧Norm l1∧Norm l2∧l1.length≤k∧l2.length≤k∧Nat.gcd (val l1) (val l2)=G∧val l2≤gk)∧Hid (Below wa.heap.size wa wr))
 case atStart=>
  have h1:=HM.out.1.below HQ.out
  have h2:=HM.out.2.1.below HQ.out
  have e1:=HM.out.2.2.2.2.2.2.1
  have e2:=HM.out.2.2.2.2.2.2.2
  refine ⟨la,lb,ao,bo,ca,cb,by rw[e1],by rw[e2],by omega,by omega,hc2,hc4,ZH ⟨h1,h2,HM.out.2.2.1,HM.out.2.2.2.1,HM.out.2.2.2.2.1,HM.out.2.2.2.2.2.1,HG.out.symm,Nat.le_refl _⟩,HQ⟩
 case round=>
  obtain ⟨l1,l2,a1,a2,c1,c2,rfl,rfl,hd1,hd2,hd3,hd4,hm,hbw⟩:=hrel
  obtain ⟨N1,hN1⟩:∃N,N=l1.length:=⟨_,rfl⟩
  obtain ⟨N2,hN2⟩:∃N,N=l2.length:=⟨_,rfl⟩
  rw[←hN1] at hd1 hm⊢
  rw[←hN2] at hd2 hm⊢
  have HN:=ZH (ZN hN1 hN2)
  clear hN1 hN2
  by_cases h0:N2=0
  ·have hz:val l2=0:=by
    have:=HN.out.2
    rw[h0] at this
    rw[List.length_eq_zero_iff.1 this.symm]
    rfl
   have hg:=hm.out.2.2.2.2.2.2.1
   rw[hz,Nat.gcd_zero_right] at hg
   have HGG:=ZH hg
   have kc:=(hbw.out.block bc (ZL HBbc.out)).trans HBbc.out
   have z0:=ZI kc 0
   have z1:=ZI kc 1
   have f0:=ZF kc 0
   have f1:=ZF kc 1
   simp at z0 z1
   have hii:IntIn wr (.agg #[.bool false,.slice a1 N1 c1]) (G:Int) k:=⟨false,_,l1,rfl,hm.out.1,hm.out.2.2.1,fun _=>rfl,by rw[←hg]; rfl,by rw[←HN.out.1]; exact hm.out.2.2.2.2.1⟩
   have hi:=hii.store kc (.bool false) (.slice a1 N1 c1)
   have hbf:Below w.heap.size w ((wr.setCell ⟨bc,0,none⟩ (.bool false)).setCell ⟨bc,1,none⟩ (.slice a1 N1 c1)):=((HAL.out.trans (hbw.out.mono HAL.out.size)).setCell HGbc.out _).setCell HGbc.out _
   have HF:=ZH (ZN hi hbf)
   subst h0
   clear hz hg kc hii hi hbf
   go_wp2_with fail
   exact bodyPost_ret (v:=.agg #[.bool false,.slice a1 N1 c1]) (by simp[results,Tryz.results130,go_sem,z0,z1]) rfl ⟨_,rfl,HF.out⟩
  ·have e1:((0:Int)<(N2:Int))=True:=eq_true (by omega)
   have e2:0<N2:=by omega
   have hvz:val l2≠0:=by
    intro hz
    rw[(norm_pos hm.out.2.2.2.1).1 hz] at HN
    exact h0 (by simpa using HN.out.2)
   have hdv:=divide_any hm.out.1 hm.out.2.1 hm.out.2.2.1 hm.out.2.2.2.1 hvz (by rw[←HN.out.1]; have:=hm.out.2.2.2.2.1; omega)
   have HDV:=ZH hdv
   clear hdv h0
   go_wp2_with fail
   refine HDV.out.mono ?_
   rintro e w3 ⟨qv,rv,q,r,rfl,-,-,hmr,hnr,hv,hlt,hb3⟩
   obtain ⟨a3,c3,rfl,hl1,hl2⟩:=mag_len hmr
   have hrk:r.length≤k:=by
    have h1:=val_lt (hm.out.2.1.choose_spec.choose_spec.2.2.2.1)
    have h2:r.length≤l2.length:=norm_length hnr (by omega)
    have h3:=hm.out.2.2.2.2.2.1
    have h4:=HN.out.2
    omega
   have hgcd:Nat.gcd (val l2) (val r)=G:=by
    rw[←hm.out.2.2.2.2.2.2.1,Nat.gcd_comm (val l1),Nat.gcd_rec (val l2) (val l1),Nat.gcd_comm (val l2) (val r)]
    congr 1
    rw[hv,Nat.mul_add_mod,Nat.mod_eq_of_lt hlt]
   have H3:=ZH (ZN (hm.out.2.1.below hb3) (ZN hmr (ZN hnr (ZN hrk (ZN hgcd (ZN hlt (hbw.out.trans (hb3.mono hbw.out.size))))))))
   clear hmr hnr hv hlt hb3 hrk hgcd hvz
   go_wp2_with fail
   go_roundg (val r)
   case measure=>have:=H3.out.2.2.2.2.2.1; have:=hm.out.2.2.2.2.2.2.2; omega
   case rel=>
    exact ⟨l2,r,a2,a3,c2,c3,by rw[HN.out.2],rfl,by have:=HN.out.2; omega,hl1,hd4,hl2,ZH ⟨by rw[←HN.out.2]; exact H3.out.1,H3.out.2.1,hm.out.2.2.2.1,H3.out.2.2.1,by rw[←HN.out.2]; exact hm.out.2.2.2.2.2.1,H3.out.2.2.2.1,H3.out.2.2.2.2.1,Nat.le_refl _⟩,ZH H3.out.2.2.2.2.2.2⟩
end Go.Proofs.YtdcaaehapdhckaaGreatDoor
