/- Rows of rationals of the call's own, that grow one by one. -/
import Derived.Test.YtdcaaehapdhckaaGreatDoorKZ
import Derived.Test.YtdcaaehapdhckaaGreatDoorKI
set_option linter.unusedSimpArgs false
set_option linter.unusedVariables false
set_option maxRecDepth 100000
namespace Go.Proofs.YtdcaaehapdhckaaGreatDoor
open Go.RowKit Go.Num Go.Flow
set_option maxHeartbeats 4000000

def RowP (p:Value→Prop) (w:World) (B:Nat) (e:TypeId) (size:Nat) (v:Value) (n:Nat) (xs:List Value):Prop:=w.ownsRow B e size v n xs∧∀g,v.ownBlock=some g→∃cur,w.heap[g]?=some (.cells cur e (0,0))∧∀u,u∈cur.toList→p u
theorem RowP.below {p:Value→Prop} {w w':World} {B:Nat} {e:TypeId} {size:Nat} {v:Value} {n:Nat} {xs:List Value} (h:RowP p w B e size v n xs) (hb:Below w.heap.size w w'):RowP p w' B e size v n xs:=by
 refine ⟨row_below h.1 hb,fun g e=>?_⟩
 obtain ⟨cur,h1,h2⟩:=h.2 g e
 exact ⟨cur,(hb.block g (ZL h1)).trans h1,h2⟩
theorem mem_zeroCells {z:Array Value} {k:Nat} {u:Value} (h:u∈(Builtin.zeroCells z k).toList):u∈z.toList:=by
 unfold Builtin.zeroCells at h
 simp at h
 obtain ⟨i,hi,rfl⟩:=h
 have hz:0<z.size:=by
  rcases Nat.eq_zero_or_pos z.size with h0 | h0
  ·rw[h0] at hi; simp at hi
  ·exact h0
 rw[getElem!_pos z _ (Nat.mod_lt _ hz)]
 simp
theorem run_append_p {P:Program} {w:World} (p:Value→Prop) (base:Nat) (t ty e:TypeId) (i:TypeInfo) (z:Value) (size bytes:Nat) (ht:P.underlying t=some (.slice e)) (hi:P.info? e=some i) (hz:i.zero=some z)
  (hsize:i.size=size) (hby:i.bytes=bytes) (hzs:z.cells.size=size) (hsz:0<size)
  (v:Value) (n:Nat) (xs:List Value) (hown:RowP p w base e size v n xs)
  (a:Addr) (m c:Nat) (news:List Value) (hl:news.length=m*size) (hnews:∀j u,news[j]?=some u→w.cell? (a.add j)=some u) (h1:∀u∈news,u.oneCell'=true)
  (hm:0<m) (h63:n+m≤maxLen) (hbytes:(n+m)*bytes≤140737488355328) (hbase:base≤w.heap.size) (hpz:∀u,u∈z.cells.toList→p u) (hpn:∀u,u∈news→p u) :
  ∃v' w',(Builtin.append_ #[t,t] ty #[v,.slice (some a) m c]).run P w=.ok v' w'∧RowP p w' base e size v' (n+m) (xs++news)∧w.grownBy w' v.ownBlock:=by
 obtain ⟨v',w',hr,h2,h3,-⟩:=run_append_own (P:=P) (w:=w) base t ty e i z size bytes ht hi hz hsize hby hzs hsz v n xs hown.1 a m c news hl hnews h1 h63 hbytes hbase
 refine ⟨v',w',hr,⟨h2,?_⟩,h3⟩
 subst hsize
 subst hby
 have hsmall:n+m≤9223372036854775807:=by simp only[maxLen] at h63; omega
 have hxs:=hown.1.1
 rcases hown.1.2 with ⟨rfl,rfl⟩ | ⟨g,cap,cur,rfl,hbg,hg,hnc,hcm,hcs,htake⟩
 ·have hr2:=run_append_nil (P:=P) w t ty e i z ht hi hz a m c news hl hnews hm (by omega) (by have hb:=hbytes; simp only[Nat.zero_add] at hb; omega)
  rw[hr2] at hr
  simp only[Result.ok.injEq] at hr
  obtain ⟨rfl,rfl⟩:=hr
  intro g e
  simp only[Value.ownBlock,Option.some.injEq] at e
  subst e
  refine ⟨_,ZW w.drew _,fun u hu=>?_⟩
  rw[Array.toList_append,List.mem_append] at hu
  rcases hu with hu | hu
  ·exact hpn u (by simpa using hu)
  ·exact hpz u (mem_zeroCells hu)
 ·obtain ⟨cur',hg',hpc⟩:=hown.2 g rfl
  have e1:cur'=cur:=by rw[hg] at hg'; simpa using hg'.symm
  subst e1
  by_cases hroom:n+m≤cap
  ·have hfit:n*i.size+news.length≤cur'.size:=by rw[hl,hcs,←Nat.add_mul]; exact Nat.mul_le_mul_right _ hroom
   have hr2:=run_append_room (P:=P) w t ty e i ht hi g n cap cur' hg a m c news hl hnews h1 hroom hfit
   rw[hr2] at hr
   simp only[Result.ok.injEq] at hr
   obtain ⟨rfl,rfl⟩:=hr
   intro g2 e2
   simp only[Value.ownBlock,Option.some.injEq] at e2
   subst e2
   refine ⟨_,setRow_heap w g cur' _ e _ hg,fun u hu=>?_⟩
   simp only[List.mem_append] at hu
   rcases hu with (hu | hu) | hu
   ·exact hpc u (List.mem_of_mem_take hu)
   ·exact hpn u hu
   ·exact hpc u (List.mem_of_mem_drop hu)
  ·have holds:∀j u,xs[j]?=some u→w.cell? ((⟨g,0,none⟩:Addr).add j)=some u:=hown.1.cells (g:=g) rfl
   have hr2:=run_append_grow (P:=P) w t ty e i z ht hi hz ⟨g,0,none⟩ n cap xs hxs holds a m c news hl hnews (by omega) (by omega) (growslice_fits (by omega) hbytes)
   rw[hr2] at hr
   simp only[Result.ok.injEq] at hr
   obtain ⟨rfl,rfl⟩:=hr
   intro g2 e2
   simp only[Value.ownBlock,Option.some.injEq] at e2
   subst e2
   refine ⟨_,ZW w.drew _,fun u hu=>?_⟩
   rw[Array.toList_append,Array.toList_append,List.mem_append,List.mem_append] at hu
   rcases hu with (hu | hu) | hu
   ·have hu:u∈xs:=by simpa using hu
    rw[←htake] at hu
    exact hpc u (List.mem_of_mem_take hu)
   ·exact hpn u (by simpa using hu)
   ·exact hpz u (mem_zeroCells hu)
def NoDigV (u:Value):Prop:=∀x,u≠.int .u32 x
abbrev Q4 := Value×Value×Value×Value
def qV (q:Q4):Value:=.agg #[q.1,q.2.1,q.2.2.1,q.2.2.2]
def qCells (l:List Q4):List Value:=l.flatMap fun q=>[q.1,q.2.1,q.2.2.1,q.2.2.2]
def qz : Q4:=(.bool false,.slice none 0 0,.bool false,.slice none 0 0)
def RatApp (w:World) (B:Nat) (v:Value) (rs:List Rat) (K:Nat):Prop:=∃qs:List Q4,qs.length=rs.length∧RowP NoDigV w B 47 4 v rs.length (qCells qs)∧∀j,j<rs.length→RtIn w (qV (qs.getD j qz)) (rs.getD j 0) K
theorem ratApp_nil (w:World) (B K:Nat):RatApp w B (.slice none 0 0) [] K:=⟨[],rfl,⟨World.ownsRow_nil _ _ _ _,fun g e=>by simp[Value.ownBlock] at e⟩,fun j hj=>by simp at hj⟩
theorem RatApp.below {w w':World} {B:Nat} {v:Value} {rs:List Rat} {K:Nat} (h:RatApp w B v rs K) (hb:Below w.heap.size w w'):RatApp w' B v rs K:=by
 obtain ⟨qs,h1,h2,h3⟩:=h
 exact ⟨qs,h1,h2.below hb,fun j hj=>(h3 j hj).below hb⟩
theorem RtIn.grown {w w':World} {B:Nat} {e:TypeId} {size n:Nat} {v u:Value} {xs:List Value} {r:Rat} {K:Nat} (h:RtIn w u r K) (hr:RowP NoDigV w B e size v n xs) (hg:w.grownBy w' v.ownBlock):RtIn w' u r K:=by
 cases hb:v.ownBlock with
 | none=>exact h.below ⟨hg.os,hg.tape,hg.output,hg.size,fun k hk=>hg.block k hk (by rw[hb]; simp)⟩
 | some g=>
  obtain ⟨cur,h1,h2⟩:=hr.2 g hb
  refine h.but (b:=g) (fun i x e=>?_) ⟨hg.size,fun k hk hl=>hg.block k hl (by rw[hb]; simpa using hk)⟩
  rw[ZI h1] at e
  exact h2 _ (by rw[←Array.getElem?_toList] at e; exact List.mem_of_getElem? e) x rfl
theorem RatApp.snoc {w w':World} {B:Nat} {v v':Value} {rs:List Rat} {K:Nat} {qs:List Q4} {a b c d:Value} {r:Rat} (hl:qs.length=rs.length) (h:RowP NoDigV w B 47 4 v rs.length (qCells qs)) (hq:∀j,j<rs.length→RtIn w (qV (qs.getD j qz)) (rs.getD j 0) K)
  (hn:RtIn w (.agg #[a,b,c,d]) r K) (h':RowP NoDigV w' B 47 4 v' (rs.length+1) (qCells qs++[a,b,c,d])) (hg:w.grownBy w' v.ownBlock):RatApp w' B v' (rs++[r]) K:=by
 refine ⟨qs++[(a,b,c,d)],by simp[hl],?_,fun j hj=>?_⟩
 ·rw[List.length_append]
  have e:qCells (qs++[(a,b,c,d)])=qCells qs++[a,b,c,d]:=by unfold qCells; rw[List.flatMap_append]; rfl
  rw[e]
  exact h'
 ·rw[List.length_append] at hj
  simp only[List.length_cons,List.length_nil] at hj
  by_cases hj2:j<rs.length
  ·have e1:(qs++[(a,b,c,d)]).getD j qz=qs.getD j qz:=by rw[List.getD_eq_getElem?_getD,List.getElem?_append_left (by omega),←List.getD_eq_getElem?_getD]
   have e2:(rs++[r]).getD j 0=rs.getD j 0:=by rw[List.getD_eq_getElem?_getD,List.getElem?_append_left (by omega),←List.getD_eq_getElem?_getD]
   rw[e1,e2]
   exact (hq j hj2).grown h hg
  ·obtain rfl:j=rs.length:=by omega
   have e1:(qs++[(a,b,c,d)]).getD rs.length qz=(a,b,c,d):=by rw[←hl,List.getD_eq_getElem?_getD,List.getElem?_append_right (Nat.le_refl _),Nat.sub_self]; rfl
   have e2:(rs++[r]).getD rs.length 0=r:=by rw[List.getD_eq_getElem?_getD,List.getElem?_append_right (Nat.le_refl _),Nat.sub_self]; rfl
   rw[e1,e2]
   exact hn.grown h hg
theorem append_rat {w:World} {B:Nat} {v:Value} {rs:List Rat} {K:Nat} (h:RatApp w B v rs K) (hl:rs.length≤100000) {b:Nat} {s1:Bool} {a1:Option Addr} {c1 l1:Nat} {s2:Bool} {a2:Option Addr} {c2 l2:Nat} {t:TypeId} (hk:w.heap[b]?=some (.cells #[.bool s1,.slice a1 c1 l1,.bool s2,.slice a2 c2 l2] t (0,0))) {r:Rat} (hr:RtIn w (.agg #[.bool s1,.slice a1 c1 l1,.bool s2,.slice a2 c2 l2]) r K) (hB:B≤w.heap.size) (ty:TypeId) :
  ∃v' w',(Builtin.append_ #[61,61] ty #[v,.slice (some ⟨b,0,none⟩) 1 1]).run Tryz.prog w=.ok v' w'∧RatApp w' B v' (rs++[r]) K∧Below B w w':=by
 obtain ⟨qs,h1,h2,h3⟩:=h
 obtain ⟨i0,hi,hz,hs,hby⟩:∃i,Tryz.prog.info? 47=some i∧i.zero=some (.agg #[.bool false,.slice none 0 0,.bool false,.slice none 0 0])∧i.size=4∧i.bytes=64:=by
  have h:=infoRat
  cases hx:Tryz.prog.info? 47 with
  | none=>rw[hx] at h; simp at h
  | some i=>rw[hx] at h; simp at h; exact ⟨i,rfl,h.1,h.2.1,h.2.2⟩
 obtain ⟨v',w',e,h4,h5⟩:=run_append_p (P:=Tryz.prog) (w:=w) NoDigV B 61 ty 47 i0 _ 4 64 Tryz.underlying61 hi hz hs hby rfl (by decide) v rs.length (qCells qs) h2 ⟨b,0,none⟩ 1 1 [.bool s1,.slice a1 c1 l1,.bool s2,.slice a2 c2 l2] rfl (fun j u hu=>by
  have:(⟨b,0,none⟩:Addr).add j=⟨b,j,none⟩:=by
   unfold Addr.add
   split
   ·next h=>subst h; rfl
   ·simp
  rw[this,ZI hk,←hu]
  simp) (by intro u hu; simp at hu; rcases hu with rfl | rfl | rfl | rfl<;>rfl) (by decide) (by unfold maxLen; omega) (by omega) hB (by intro u hu; simp[Value.cells] at hu; rcases hu with rfl | rfl | rfl | rfl<;>exact fun x e=>by cases e) (by intro u hu; simp at hu; rcases hu with rfl | rfl | rfl | rfl<;>exact fun x e=>by cases e)
 refine ⟨v',w',e,RatApp.snoc h1 h2 h3 hr h4 h5,?_⟩
 exact (ZR B w).grown h5 hB (fun q e=>(World.ownsRow.lt h2.1 q e).1)
theorem RatApp.reads {w:World} {B:Nat} {v:Value} {rs:List Rat} {K:Nat} (h:RatApp w B v rs K):∃ao c,v=.slice ao rs.length c∧RatsAt w ao c rs K:=by
 obtain ⟨qs,h1,h2,h3⟩:=h
 obtain ⟨ao,c,e,k1,k2,k3⟩:=row_cells h2.1
 refine ⟨ao,c,e,k1,k2,fun h0=>?_⟩
 obtain ⟨g,rfl,hg,hc⟩:=k3 h0
 refine ⟨g,0,rfl,hg,fun j hj=>?_⟩
 have hj2:j<qs.length:=by omega
 have k:=fun r (hr:r<4)=>flat_at (fun q:Q4=>[q.1,q.2.1,q.2.2.1,q.2.2.2]) 4 (fun _=>rfl) qs j hj2 r hr
 have hr:=h3 j hj
 have e1:qs.getD j qz=qs[j]:=by rw[List.getD_eq_getElem?_getD,List.getElem?_eq_getElem hj2]; rfl
 rw[e1] at hr
 obtain ⟨s1,a1,d1,m1,s2,a2,d2,m2,e2⟩:=rt_shape hr
 unfold qV at e2 hr
 simp only[Value.agg.injEq] at e2
 have e2:=congrArg Array.toList e2
 simp only[List.cons.injEq,and_true] at e2
 obtain ⟨q1,q2,q3,q4⟩:=e2
 have c0:=hc _ _ (k 0 (by omega))
 have c1:=hc _ _ (k 1 (by omega))
 have c2:=hc _ _ (k 2 (by omega))
 have c3:=hc _ _ (k 3 (by omega))
 rw[q1,q2,q3,q4] at hr
 refine ⟨s1,a1,d1,m1,s2,a2,d2,m2,?_,?_,?_,?_,hr⟩
 ·rw[Nat.zero_add,←q1]; exact c0
 ·rw[Nat.zero_add,←q2]; exact c1
 ·rw[Nat.zero_add,←q3]; exact c2
 ·rw[Nat.zero_add,←q4]; exact c3
end Go.Proofs.YtdcaaehapdhckaaGreatDoor

