/- Blocks that stay; where what is appended lies. -/
import Derived.Test.YtdcaaehapdhckaaGreatDoorRRowM
import Derived.Test.YtdcaaehapdhckaaGreatDoorK1
set_option linter.unusedSimpArgs false
set_option linter.unusedVariables false
set_option maxRecDepth 100000
namespace Go.Proofs.YtdcaaehapdhckaaGreatDoor
open Go.RowKit Go.Num Go.Flow
set_option maxHeartbeats 4000000

def Keep (P:Nat→Prop) (w w':World):Prop:=w.heap.size≤w'.heap.size∧∀b,P b→b<w.heap.size→w'.heap[b]?=w.heap[b]?
theorem Keep.of_below {P:Nat→Prop} {w w':World} (h:Below w.heap.size w w'):Keep P w w':=⟨h.size,fun b _ hl=>h.block b hl⟩
theorem Keep.of_but {b:Nat} {w w':World} (h:But b w w'):Keep (fun g=>g≠b) w w':=⟨h.size,fun g hg hl=>h.block g hg hl⟩
theorem Keep.of_grown {r:Option Nat} {w w':World} (h:w.grownBy w' r):Keep (fun g=>r≠some g) w w':=⟨h.size,fun g hg hl=>h.block g hl fun e=>hg e.symm⟩
theorem cell_keep {w w':World} {g o:Nat} {u:Value} (h:w'.heap[g]?=w.heap[g]?) (hc:w.cell? ⟨g,o,none⟩=some u):w'.cell? ⟨g,o,none⟩=some u:=(World.cell?_of_block (a:=⟨g,o,none⟩) h).trans hc
theorem run_append_at {P:Program} {w:World} (base:Nat) (t ty e:TypeId) (i:TypeInfo) (z:Value) (size bytes:Nat) (ht:P.underlying t=some (.slice e)) (hi:P.info? e=some i) (hz:i.zero=some z)
  (hsize:i.size=size) (hby:i.bytes=bytes) (hzs:z.cells.size=size) (hsz:0<size)
  (v:Value) (n:Nat) (xs:List Value) (hown:w.ownsRow base e size v n xs)
  (a:Addr) (m c:Nat) (news:List Value) (hl:news.length=m*size) (hnews:∀j u,news[j]?=some u→w.cell? (a.add j)=some u) (h1:∀u∈news,u.oneCell'=true)
  (hm:0<m) (h63:n+m≤maxLen) (hbytes:(n+m)*bytes≤140737488355328) (hbase:base≤w.heap.size) :
  ∃v' w',(Builtin.append_ #[t,t] ty #[v,.slice (some a) m c]).run P w=.ok v' w'∧w'.ownsRow base e size v' (n+m) (xs++news)∧w.grownBy w' v.ownBlock∧(v'.ownBlock=v.ownBlock∨v'.ownBlock=some w.heap.size):=by
 obtain ⟨v',w',hr,h2,h3,-⟩:=run_append_own (P:=P) (w:=w) base t ty e i z size bytes ht hi hz hsize hby hzs hsz v n xs hown a m c news hl hnews h1 h63 hbytes hbase
 refine ⟨v',w',hr,h2,h3,?_⟩
 subst hsize
 subst hby
 have hsmall:n+m≤9223372036854775807:=by simp only[maxLen] at h63; omega
 have hxs:=hown.1
 rcases hown.2 with ⟨rfl,rfl⟩ | ⟨g,cap,cur,rfl,hbg,hg,hnc,hcm,hcs,htake⟩
 ·have hr2:=run_append_nil (P:=P) w t ty e i z ht hi hz a m c news hl hnews hm (by omega) (by have hb:=hbytes; simp only[Nat.zero_add] at hb; omega)
  rw[hr2] at hr
  simp only[Result.ok.injEq] at hr
  obtain ⟨rfl,rfl⟩:=hr
  exact .inr rfl
 ·by_cases hroom:n+m≤cap
  ·have hfit:n*i.size+news.length≤cur.size:=by rw[hl,hcs,←Nat.add_mul]; exact Nat.mul_le_mul_right _ hroom
   have hr2:=run_append_room (P:=P) w t ty e i ht hi g n cap cur hg a m c news hl hnews h1 hroom hfit
   rw[hr2] at hr
   simp only[Result.ok.injEq] at hr
   obtain ⟨rfl,rfl⟩:=hr
   exact .inl rfl
  ·have holds:∀j u,xs[j]?=some u→w.cell? ((⟨g,0,none⟩:Addr).add j)=some u:=hown.cells (g:=g) rfl
   have hr2:=run_append_grow (P:=P) w t ty e i z ht hi hz ⟨g,0,none⟩ n cap xs hxs holds a m c news hl hnews (by omega) (by omega) (growslice_fits (by omega) hbytes)
   rw[hr2] at hr
   simp only[Result.ok.injEq] at hr
   obtain ⟨rfl,rfl⟩:=hr
   exact .inr rfl
theorem row_keep {w w':World} {B:Nat} {t:TypeId} {k n:Nat} {v:Value} {l:List Value} (h:w.ownsRow B t k v n l) (hk:Keep (fun b=>v.ownBlock=some b) w w'):w'.ownsRow B t k v n l:=by
 refine ⟨h.1,?_⟩
 rcases h.2 with h1 | ⟨g,cap,cur,h1,h2,h3,h4⟩
 ·exact .inl h1
 ·exact .inr ⟨g,cap,cur,h1,h2,(hk.2 g (by rw[h1]; rfl) (ZL h3)).trans h3,h4⟩
def TermsP (w:World) (P:Nat→Prop) (v:Value) (l:List (Int×List UInt8)):Prop:=∃ao c,v=.slice ao l.length c∧l.length≤c∧c≤maxLen∧(0<l.length→∃g o,ao=some ⟨g,o,none⟩∧P g∧g<w.heap.size∧∀j,j<l.length→w.cell? ⟨g,o+j*2,none⟩=some (.int .i64 (l.getD j (0,[])).1)∧w.cell? ⟨g,o+j*2+1,none⟩=some (.string ⟨(l.getD j (0,[])).2.toArray⟩))
theorem TermsP.keep {P:Nat→Prop} {w w':World} (hk:Keep P w w') {v:Value} {l:List (Int×List UInt8)} (h:TermsP w P v l):TermsP w' P v l:=by
 obtain ⟨ao,c,e,h1,h2,h3⟩:=h
 refine ⟨ao,c,e,h1,h2,fun h0=>?_⟩
 obtain ⟨g,o,e,hp,hl,hc⟩:=h3 h0
 exact ⟨g,o,e,hp,Nat.lt_of_lt_of_le hl hk.1,fun j hj=>⟨cell_keep (hk.2 g hp hl) (hc j hj).1,cell_keep (hk.2 g hp hl) (hc j hj).2⟩⟩
theorem TermsP.mono {P Q:Nat→Prop} {w:World} (hk:∀b,P b→b<w.heap.size→Q b) {v:Value} {l:List (Int×List UInt8)} (h:TermsP w P v l):TermsP w Q v l:=by
 obtain ⟨ao,c,e,h1,h2,h3⟩:=h
 refine ⟨ao,c,e,h1,h2,fun h0=>?_⟩
 obtain ⟨g,o,e,hp,hl,hc⟩:=h3 h0
 exact ⟨g,o,e,hk g hp hl,hl,hc⟩
theorem TermsP.reads {P:Nat→Prop} {w:World} {v:Value} {l:List (Int×List UInt8)} (h:TermsP w P v l):TermsZ w v l:=by
 obtain ⟨ao,c,e,h1,h2,h3⟩:=h
 refine ⟨ao,c,e,h1,h2,fun h0=>?_⟩
 obtain ⟨g,o,e,hp,hl,hc⟩:=h3 h0
 exact ⟨g,o,e,hl,hc⟩
theorem TermsZ.at {w:World} {v:Value} {l:List (Int×List UInt8)} (h:TermsZ w v l):TermsP w (fun b=>b<w.heap.size) v l:=by
 obtain ⟨ao,c,e,h1,h2,h3⟩:=h
 refine ⟨ao,c,e,h1,h2,fun h0=>?_⟩
 obtain ⟨g,o,e,hl,hc⟩:=h3 h0
 exact ⟨g,o,e,hl,hl,hc⟩
theorem TermRow.at {w:World} {B:Nat} {v:Value} {l:List (Nat×List UInt8)} (h:TermRow w B v l):TermsP w (fun b=>B≤b) v (zTerms l):=by
 have hB:∀g,v.ownBlock=some g→B≤g:=fun g e=>(World.ownsRow.lt h g e).1
 obtain ⟨ao,c,rfl,h1,h2,h3⟩:=(h.reads).z
 refine ⟨ao,c,rfl,h1,h2,fun h0=>?_⟩
 obtain ⟨g,o,rfl,hl,hc⟩:=h3 h0
 exact ⟨g,o,rfl,hB g rfl,hl,hc⟩
theorem termsP_none (w:World) (P:Nat→Prop):TermsP w P (.slice none 0 0) []:=⟨none,0,rfl,Nat.le_refl _,by unfold maxLen; omega,fun h=>absurd h (by simp)⟩
mutual
def ExP (w:World) (P:Nat→Prop):Ex→Value→Prop
 | .mk op c t f a,v=>∃tv ao cap,v=.agg #[.int .i64 op,.string ⟨c.toArray⟩,tv,.string ⟨f.toArray⟩,.slice ao a.length cap]∧TermsP w P tv t∧a.length≤cap∧cap≤maxLen∧(0<a.length→∃g o,ao=some ⟨g,o,none⟩∧P g∧g<w.heap.size∧CellsP w P a g o)
def CellsP (w:World) (P:Nat→Prop):List Ex→Nat→Nat→Prop
 | [],_,_=>True
 | x::l,g,o=>(∃v0 v1 v2 v3 v4,w.cell? ⟨g,o,Option.none⟩=some v0∧w.cell? ⟨g,o+1,Option.none⟩=some v1∧w.cell? ⟨g,o+2,Option.none⟩=some v2∧w.cell? ⟨g,o+3,Option.none⟩=some v3∧w.cell? ⟨g,o+4,Option.none⟩=some v4∧ExP w P x (.agg #[v0,v1,v2,v3,v4]))∧CellsP w P l g (o+5)
end
def ExsP (w:World) (P:Nat→Prop) (v:Value) (l:List Ex):Prop:=∃ao cap,v=.slice ao l.length cap∧l.length≤cap∧cap≤maxLen∧(0<l.length→∃g o,ao=some ⟨g,o,none⟩∧P g∧g<w.heap.size∧CellsP w P l g o)
theorem ExP.out {w:World} {P:Nat→Prop} {x:Ex} {v:Value} (h:ExP w P x v):∃tv ao cap,v=.agg #[.int .i64 x.op,.string ⟨x.c.toArray⟩,tv,.string ⟨x.f.toArray⟩,.slice ao x.a.length cap]∧TermsP w P tv x.t∧ExsP w P (.slice ao x.a.length cap) x.a:=by
 cases x
 rw[ExP] at h
 obtain ⟨tv,ao,cap,e,ht,h1,h2,h3⟩:=h
 exact ⟨tv,ao,cap,e,ht,ao,cap,rfl,h1,h2,h3⟩
theorem ExP.of {w:World} {P:Nat→Prop} {x:Ex} {tv av:Value} (ht:TermsP w P tv x.t) (ha:ExsP w P av x.a):ExP w P x (.agg #[.int .i64 x.op,.string ⟨x.c.toArray⟩,tv,.string ⟨x.f.toArray⟩,av]):=by
 cases x
 rw[ExP]
 obtain ⟨ao,cap,rfl,h1,h2,h3⟩:=ha
 exact ⟨tv,ao,cap,rfl,ht,h1,h2,h3⟩
mutual
theorem ExP.keep {P:Nat→Prop} {w w':World} (hk:Keep P w w'):∀{x:Ex} {v:Value},ExP w P x v→ExP w' P x v
 | .mk op c t f a,v,h=>by
  rw[ExP] at h⊢
  obtain ⟨tv,ao,cap,e,ht,h1,h2,h3⟩:=h
  refine ⟨tv,ao,cap,e,ht.keep hk,h1,h2,fun h0=>?_⟩
  obtain ⟨g,o,e,hp,hg,hc⟩:=h3 h0
  exact ⟨g,o,e,hp,Nat.lt_of_lt_of_le hg hk.1,CellsP.keep hk hp hg hc⟩
theorem CellsP.keep {P:Nat→Prop} {w w':World} (hk:Keep P w w'):∀{l:List Ex} {g o:Nat},P g→g<w.heap.size→CellsP w P l g o→CellsP w' P l g o
 | [],g,o,_,_,_=>by rw[CellsP]; trivial
 | x::l,g,o,hp,hg,h=>by
  rw[CellsP] at h⊢
  obtain ⟨⟨v0,v1,v2,v3,v4,c0,c1,c2,c3,c4,hx⟩,hl⟩:=h
  have hb:=hk.2 g hp hg
  exact ⟨⟨v0,v1,v2,v3,v4,cell_keep hb c0,cell_keep hb c1,cell_keep hb c2,cell_keep hb c3,cell_keep hb c4,ExP.keep hk hx⟩,CellsP.keep hk hp hg hl⟩
end
mutual
theorem ExP.mono {P Q:Nat→Prop} {w:World} (hk:∀b,P b→b<w.heap.size→Q b):∀{x:Ex} {v:Value},ExP w P x v→ExP w Q x v
 | .mk op c t f a,v,h=>by
  rw[ExP] at h⊢
  obtain ⟨tv,ao,cap,e,ht,h1,h2,h3⟩:=h
  refine ⟨tv,ao,cap,e,ht.mono hk,h1,h2,fun h0=>?_⟩
  obtain ⟨g,o,e,hp,hg,hc⟩:=h3 h0
  exact ⟨g,o,e,hk g hp hg,hg,CellsP.mono hk hc⟩
theorem CellsP.mono {P Q:Nat→Prop} {w:World} (hk:∀b,P b→b<w.heap.size→Q b):∀{l:List Ex} {g o:Nat},CellsP w P l g o→CellsP w Q l g o
 | [],g,o,_=>by rw[CellsP]; trivial
 | x::l,g,o,h=>by
  rw[CellsP] at h⊢
  obtain ⟨⟨v0,v1,v2,v3,v4,c0,c1,c2,c3,c4,hx⟩,hl⟩:=h
  exact ⟨⟨v0,v1,v2,v3,v4,c0,c1,c2,c3,c4,ExP.mono hk hx⟩,CellsP.mono hk hl⟩
end
mutual
theorem ExP.reads {P:Nat→Prop} {w:World}:∀{x:Ex} {v:Value},ExP w P x v→ExIn w x v
 | .mk op c t f a,v,h=>by
  rw[ExP] at h
  rw[ExIn]
  obtain ⟨tv,ao,cap,e,ht,h1,h2,h3⟩:=h
  refine ⟨tv,ao,cap,e,ht.reads,h1,h2,fun h0=>?_⟩
  obtain ⟨g,o,e,hp,hg,hc⟩:=h3 h0
  exact ⟨g,o,e,hg,CellsP.reads hc⟩
theorem CellsP.reads {P:Nat→Prop} {w:World}:∀{l:List Ex} {g o:Nat},CellsP w P l g o→CellsIn w l g o
 | [],g,o,_=>by rw[CellsIn]; trivial
 | x::l,g,o,h=>by
  rw[CellsP] at h
  rw[CellsIn]
  obtain ⟨⟨v0,v1,v2,v3,v4,c0,c1,c2,c3,c4,hx⟩,hl⟩:=h
  exact ⟨⟨v0,v1,v2,v3,v4,c0,c1,c2,c3,c4,ExP.reads hx⟩,CellsP.reads hl⟩
end
mutual
theorem ExIn.at {w:World}:∀{x:Ex} {v:Value},ExIn w x v→ExP w (fun b=>b<w.heap.size) x v
 | .mk op c t f a,v,h=>by
  rw[ExIn] at h
  rw[ExP]
  obtain ⟨tv,ao,cap,e,ht,h1,h2,h3⟩:=h
  refine ⟨tv,ao,cap,e,ht.at,h1,h2,fun h0=>?_⟩
  obtain ⟨g,o,e,hg,hc⟩:=h3 h0
  exact ⟨g,o,e,hg,hg,CellsIn.atP hc⟩
theorem CellsIn.atP {w:World}:∀{l:List Ex} {g o:Nat},CellsIn w l g o→CellsP w (fun b=>b<w.heap.size) l g o
 | [],g,o,_=>by rw[CellsP]; trivial
 | x::l,g,o,h=>by
  rw[CellsIn] at h
  rw[CellsP]
  obtain ⟨⟨v0,v1,v2,v3,v4,c0,c1,c2,c3,c4,hx⟩,hl⟩:=h
  exact ⟨⟨v0,v1,v2,v3,v4,c0,c1,c2,c3,c4,ExIn.at hx⟩,CellsIn.atP hl⟩
end
theorem ExsP.keep {P:Nat→Prop} {w w':World} (hk:Keep P w w') {v:Value} {l:List Ex} (h:ExsP w P v l):ExsP w' P v l:=by
 obtain ⟨ao,cap,e,h1,h2,h3⟩:=h
 refine ⟨ao,cap,e,h1,h2,fun h0=>?_⟩
 obtain ⟨g,o,e,hp,hg,hc⟩:=h3 h0
 exact ⟨g,o,e,hp,Nat.lt_of_lt_of_le hg hk.1,hc.keep hk hp hg⟩
theorem ExsP.mono {P Q:Nat→Prop} {w:World} (hk:∀b,P b→b<w.heap.size→Q b) {v:Value} {l:List Ex} (h:ExsP w P v l):ExsP w Q v l:=by
 obtain ⟨ao,cap,e,h1,h2,h3⟩:=h
 refine ⟨ao,cap,e,h1,h2,fun h0=>?_⟩
 obtain ⟨g,o,e,hp,hg,hc⟩:=h3 h0
 exact ⟨g,o,e,hk g hp hg,hg,hc.mono hk⟩
theorem ExsP.reads {P:Nat→Prop} {w:World} {v:Value} {l:List Ex} (h:ExsP w P v l):ExsIn w v l:=by
 obtain ⟨ao,cap,e,h1,h2,h3⟩:=h
 refine ⟨ao,cap,e,h1,h2,fun h0=>?_⟩
 obtain ⟨g,o,e,hp,hg,hc⟩:=h3 h0
 exact ⟨g,o,e,hg,hc.reads⟩
theorem exsP_none (w:World) (P:Nat→Prop):ExsP w P (.slice none 0 0) []:=⟨none,0,rfl,Nat.le_refl _,by unfold maxLen; omega,fun h=>absurd h (by simp)⟩
theorem CellsP.of {w:World} {P:Nat→Prop} {g:Nat}:∀{l:List Ex} {o:Nat},(∀j,j<l.length→∃v0 v1 v2 v3 v4,w.cell? ⟨g,o+j*5,none⟩=some v0∧w.cell? ⟨g,o+j*5+1,none⟩=some v1∧w.cell? ⟨g,o+j*5+2,none⟩=some v2∧w.cell? ⟨g,o+j*5+3,none⟩=some v3∧w.cell? ⟨g,o+j*5+4,none⟩=some v4∧ExP w P (l.getD j Ex.none) (.agg #[v0,v1,v2,v3,v4]))→CellsP w P l g o
 | [],o,_=>by rw[CellsP]; trivial
 | x::l,o,h=>by
  rw[CellsP]
  refine ⟨by simpa using h 0 (by simp),CellsP.of fun j hj=>?_⟩
  have k:=h (j+1) (by simpa using hj)
  rw[show o+(j+1)*5=o+5+j*5 by omega] at k
  exact k
theorem CellsP.at {w:World} {P:Nat→Prop}:∀{l:List Ex} {g o j:Nat},CellsP w P l g o→j<l.length→∃v0 v1 v2 v3 v4,w.cell? ⟨g,o+j*5,none⟩=some v0∧w.cell? ⟨g,o+j*5+1,none⟩=some v1∧w.cell? ⟨g,o+j*5+2,none⟩=some v2∧w.cell? ⟨g,o+j*5+3,none⟩=some v3∧w.cell? ⟨g,o+j*5+4,none⟩=some v4∧ExP w P (l.getD j Ex.none) (.agg #[v0,v1,v2,v3,v4])
 | [],g,o,j,_,hj=>by simp at hj
 | x::l,g,o,0,h,_=>by
  rw[CellsP] at h
  simpa using h.1
 | x::l,g,o,j+1,h,hj=>by
  rw[CellsP] at h
  have ih:=CellsP.at (j:=j) h.2 (by simpa using hj)
  rw[show o+5+j*5=o+(j+1)*5 by omega] at ih
  exact ih
abbrev Q5 := Value×Value×Value×Value×Value
def fV (q:Q5):Value:=.agg #[q.1,q.2.1,q.2.2.1,q.2.2.2.1,q.2.2.2.2]
def fL (q:Q5):List Value:=[q.1,q.2.1,q.2.2.1,q.2.2.2.1,q.2.2.2.2]
def fz : Q5:=(.int .i64 0,.string ⟨#[]⟩,.slice none 0 0,.string ⟨#[]⟩,.slice none 0 0)
def ExApp (w:World) (B:Nat) (P:Nat→Prop) (v:Value) (l:List Ex):Prop:=∃qs:List Q5,qs.length=l.length∧w.ownsRow B 30 5 v l.length (qs.flatMap fL)∧∀j,j<l.length→ExP w (fun b=>P b∧v.ownBlock≠some b) (l.getD j Ex.none) (fV (qs.getD j fz))
theorem exApp_nil (w:World) (B:Nat) (P:Nat→Prop):ExApp w B P (.slice none 0 0) []:=⟨[],rfl,World.ownsRow_nil _ _ _ _,fun j hj=>by simp at hj⟩
theorem ExApp.keep {P:Nat→Prop} {w w':World} {B:Nat} {v:Value} {l:List Ex} (h:ExApp w B P v l) (hk:Keep (fun b=>P b∨v.ownBlock=some b) w w'):ExApp w' B P v l:=by
 obtain ⟨qs,h1,h2,h3⟩:=h
 exact ⟨qs,h1,row_keep h2 ⟨hk.1,fun b hb=>hk.2 b (.inr hb)⟩,fun j hj=>(h3 j hj).keep ⟨hk.1,fun b hb=>hk.2 b (.inl hb.1)⟩⟩
theorem ExApp.below {P:Nat→Prop} {w w':World} {B:Nat} {v:Value} {l:List Ex} (h:ExApp w B P v l) (hb:Below w.heap.size w w'):ExApp w' B P v l:=h.keep (Keep.of_below hb)
theorem ExApp.mono {P Q:Nat→Prop} {w:World} {B:Nat} {v:Value} {l:List Ex} (h:ExApp w B P v l) (hk:∀b,P b→b<w.heap.size→Q b):ExApp w B Q v l:=by
 obtain ⟨qs,h1,h2,h3⟩:=h
 exact ⟨qs,h1,h2,fun j hj=>(h3 j hj).mono fun b hb hl=>⟨hk b hb.1 hl,hb.2⟩⟩
theorem ExApp.shape {P:Nat→Prop} {w:World} {B:Nat} {v:Value} {l:List Ex} (h:ExApp w B P v l):∃ao c,v=.slice ao l.length c∧l.length≤c∧c≤maxLen:=by
 obtain ⟨qs,h1,h2,h3⟩:=h
 exact row_shape h2
theorem ExApp.own {P:Nat→Prop} {w:World} {B:Nat} {v:Value} {l:List Ex} (h:ExApp w B P v l):∀q,v.ownBlock=some q→B≤q:=by
 obtain ⟨qs,h1,h2,h3⟩:=h
 exact fun q e=>(World.ownsRow.lt h2 q e).1
theorem ExApp.own_lt {P:Nat→Prop} {w:World} {B:Nat} {v:Value} {l:List Ex} (h:ExApp w B P v l):∀q,v.ownBlock=some q→q<w.heap.size:=by
 obtain ⟨qs,h1,h2,h3⟩:=h
 exact fun q e=>(World.ownsRow.lt h2 q e).2
theorem infoExpr : (Tryz.prog.info? 30).map (fun i=>(i.zero,i.size,i.bytes))=some (some (.agg #[.int .i64 0,.string ⟨#[]⟩,.slice none 0 0,.string ⟨#[]⟩,.slice none 0 0]),5,88):=by kernel_rfl
theorem ExApp.more {w w':World} {B:Nat} {P:Nat→Prop} {v v':Value} {l m:List Ex} {qs rs:List Q5} (h1:qs.length=l.length) (h3:∀j,j<l.length→ExP w (fun b=>P b∧v.ownBlock≠some b) (l.getD j Ex.none) (fV (qs.getD j fz)))
  (k1:rs.length=m.length) (k3:∀j,j<m.length→ExP w (fun b=>P b∧v.ownBlock≠some b) (m.getD j Ex.none) (fV (rs.getD j fz)))
  (h':w'.ownsRow B 30 5 v' (l.length+m.length) (qs.flatMap fL++rs.flatMap fL)) (hg:w.grownBy w' v.ownBlock) (hw:v'.ownBlock=v.ownBlock∨v'.ownBlock=some w.heap.size):ExApp w' B P v' (l++m):=by
 have hk:Keep (fun b=>P b∧v.ownBlock≠some b) w w':=⟨hg.size,fun b hb hl=>(Keep.of_grown hg).2 b hb.2 hl⟩
 have hm:∀{x:Ex} {u:Value},ExP w (fun b=>P b∧v.ownBlock≠some b) x u→ExP w' (fun b=>P b∧v'.ownBlock≠some b) x u:=fun {x u} hx=>by
  refine (hx.mono (Q:=fun b=>(P b∧v.ownBlock≠some b)∧b<w.heap.size) fun b hb hl=>⟨hb,hl⟩).keep ⟨hk.1,fun b hb hl=>hk.2 b hb.1 hl⟩ |>.mono fun b hb _=>⟨hb.1.1,fun e=>?_⟩
  rcases hw with h | h
  ·rw[h] at e; exact hb.1.2 e
  ·rw[h] at e
   simp only[Option.some.injEq] at e
   omega
 refine ⟨qs++rs,by simp[h1,k1],?_,fun j hj=>?_⟩
 ·rw[List.length_append,List.flatMap_append]
  exact h'
 ·rw[List.length_append] at hj
  by_cases hj2:j<l.length
  ·have e1:(qs++rs).getD j fz=qs.getD j fz:=by rw[List.getD_eq_getElem?_getD,List.getElem?_append_left (by omega),←List.getD_eq_getElem?_getD]
   have e2:(l++m).getD j Ex.none=l.getD j Ex.none:=by rw[List.getD_eq_getElem?_getD,List.getElem?_append_left (by omega),←List.getD_eq_getElem?_getD]
   rw[e1,e2]
   exact hm (h3 j hj2)
  ·have e1:(qs++rs).getD j fz=rs.getD (j-l.length) fz:=by rw[List.getD_eq_getElem?_getD,List.getElem?_append_right (by omega),←List.getD_eq_getElem?_getD,h1]
   have e2:(l++m).getD j Ex.none=m.getD (j-l.length) Ex.none:=by rw[List.getD_eq_getElem?_getD,List.getElem?_append_right (by omega),←List.getD_eq_getElem?_getD]
   rw[e1,e2]
   exact hm (k3 _ (by omega))
theorem ex_one {x:Ex} {w:World} {P:Nat→Prop} {q:Q5} (h:ExP w P x (fV q)):∀u,u∈fL q→u.oneCell'=true:=by
 obtain ⟨tv,ao,cap,e,ht,ha⟩:=h.out
 obtain ⟨ta,tc,rfl,-⟩:=ht
 unfold fV at e
 simp only[Value.agg.injEq] at e
 have e:=congrArg Array.toList e
 simp only[List.cons.injEq,and_true] at e
 obtain ⟨e0,e1,e2,e3,e4⟩:=e
 intro u hu
 unfold fL at hu
 rw[e0,e1,e2,e3,e4] at hu
 simp only[List.mem_cons,List.not_mem_nil,or_false] at hu
 rcases hu with rfl | rfl | rfl | rfl | rfl<;>rfl
theorem append_exs {w:World} {B:Nat} {P:Nat→Prop} {v:Value} {l m:List Ex} (h:ExApp w B P v l) (hl:l.length+m.length≤100000) (hm:0<m.length) {x:Value} (hx:ExsP w (fun b=>P b∧v.ownBlock≠some b) x m) (hB:B≤w.heap.size) (ty:TypeId) :
  ∃v' w',(Builtin.append_ #[28,28] ty #[v,x]).run Tryz.prog w=.ok v' w'∧ExApp w' B P v' (l++m)∧w.grownBy w' v.ownBlock∧Below B w w':=by
 obtain ⟨qs,h1,h2,h3⟩:=h
 obtain ⟨ao,cap,rfl,m1,m2,m3⟩:=hx
 obtain ⟨g,o,rfl,-,hg,hc⟩:=m3 hm
 obtain ⟨i0,hi,hz,hs,hby⟩:∃i,Tryz.prog.info? 30=some i∧i.zero=some (.agg #[.int .i64 0,.string ⟨#[]⟩,.slice none 0 0,.string ⟨#[]⟩,.slice none 0 0])∧i.size=5∧i.bytes=88:=by
  have h:=infoExpr
  cases hx:Tryz.prog.info? 30 with
  | none=>rw[hx] at h; simp at h
  | some i=>rw[hx] at h; simp at h; exact ⟨i,rfl,h.1,h.2.1,h.2.2⟩
 obtain ⟨rs,k1,k2,k3⟩:∃rs:List Q5,rs.length=m.length∧(∀j,j<m.length→∀r,r<5→∃u,(fL (rs.getD j fz))[r]?=some u∧w.cell? ⟨g,o+j*5+r,none⟩=some u)∧∀j,j<m.length→ExP w (fun b=>P b∧v.ownBlock≠some b) (m.getD j Ex.none) (fV (rs.getD j fz)):=by
  have h9:∀k,k≤m.length→∃rs:List Q5,rs.length=k∧(∀j,j<k→∀r,r<5→∃u,(fL (rs.getD j fz))[r]?=some u∧w.cell? ⟨g,o+j*5+r,none⟩=some u)∧∀j,j<k→ExP w (fun b=>P b∧v.ownBlock≠some b) (m.getD j Ex.none) (fV (rs.getD j fz)):=by
   intro k
   induction k with
   | zero=>exact fun _=>⟨[],rfl,fun j hj=>by omega,fun j hj=>by omega⟩
   | succ k ih=>
    intro hk
    obtain ⟨rs,q1,q2,q3⟩:=ih (by omega)
    obtain ⟨v0,v1,v2,v3,v4,c0,c1,c2,c3,c4,hx⟩:=hc.at (j:=k) (by omega)
    have ea:∀j,j<k→(rs++[((v0,v1,v2,v3,v4):Q5)]).getD j fz=rs.getD j fz:=fun j hj=>by rw[List.getD_eq_getElem?_getD,List.getElem?_append_left (by omega),←List.getD_eq_getElem?_getD]
    have eb:(rs++[((v0,v1,v2,v3,v4):Q5)]).getD k fz=(v0,v1,v2,v3,v4):=by rw[←q1,List.getD_eq_getElem?_getD,List.getElem?_append_right (Nat.le_refl _),Nat.sub_self]; rfl
    refine ⟨rs++[(v0,v1,v2,v3,v4)],by simp[q1],fun j hj r hr=>?_,fun j hj=>?_⟩
    ·by_cases hj2:j<k
     ·rw[ea j hj2]; exact q2 j hj2 r hr
     ·obtain rfl:j=k:=by omega
      rw[eb]
      match r,hr with
      | 0,_=>exact ⟨v0,rfl,c0⟩
      | 1,_=>exact ⟨v1,rfl,c1⟩
      | 2,_=>exact ⟨v2,rfl,c2⟩
      | 3,_=>exact ⟨v3,rfl,c3⟩
      | 4,_=>exact ⟨v4,rfl,c4⟩
    ·by_cases hj2:j<k
     ·rw[ea j hj2]; exact q3 j hj2
     ·obtain rfl:j=k:=by omega
      rw[eb]
      exact hx
  exact h9 _ (Nat.le_refl _)
 have hfl:∀l:List Q5,(l.flatMap fL).length=l.length*5:=fun l=>by
  induction l with
  | nil=>rfl
  | cons a l ih=>rw[List.flatMap_cons,List.length_append,ih,List.length_cons]; show 5+_=_; omega
 obtain ⟨v',w',e,h4,h5,h6⟩:=run_append_at (P:=Tryz.prog) (w:=w) B 28 ty 30 i0 _ 5 88 Tryz.underlying28 hi hz hs hby rfl (by decide) v l.length (qs.flatMap fL) h2 ⟨g,o,none⟩ m.length cap (rs.flatMap fL) (by rw[hfl,k1]) (fun j u hu=>by
  have hj:j<rs.length*5:=by
   rcases Nat.lt_or_ge j (rs.length*5) with h | h
   ·exact h
   ·rw[List.getElem?_eq_none (by rw[hfl]; exact h)] at hu; cases hu
  have hd:j/5<rs.length:=by omega
  have hf:=flat_at fL 5 (fun _=>rfl) rs (j/5) hd (j%5) (Nat.mod_lt _ (by decide))
  have ej:j/5*5+j%5=j:=by omega
  rw[ej,hu] at hf
  obtain ⟨u',e1,e2⟩:=k2 (j/5) (by omega) (j%5) (Nat.mod_lt _ (by decide))
  rw[List.getD_eq_getElem?_getD,List.getElem?_eq_getElem hd] at e1
  have e3:some u=some u':=hf.trans e1
  simp only[Option.some.injEq] at e3
  subst e3
  have e4:(⟨g,o,none⟩:Addr).add j=⟨g,o+j/5*5+j%5,none⟩:=by
   have e5:o+j/5*5+j%5=o+j:=by omega
   rw[e5]
   unfold Addr.add
   split
   ·next h=>subst h; rfl
   ·rfl
  rw[e4]
  exact e2) (fun u hu=>by
  obtain ⟨q,hq,hu⟩:=List.mem_flatMap.1 hu
  obtain ⟨j,hj,rfl⟩:=List.getElem_of_mem hq
  have h9:=k3 j (by omega)
  rw[List.getD_eq_getElem?_getD (l:=rs),List.getElem?_eq_getElem hj] at h9
  exact ex_one h9 u hu) hm (by unfold maxLen; omega) (by omega) hB
 exact ⟨v',w',e,ExApp.more h1 h3 k1 k3 h4 h5 h6,h5,(ZR B w).grown h5 hB (fun q e=>(World.ownsRow.lt h2 q e).1)⟩
theorem one_exs {w:World} {P:Nat→Prop} {b:Nat} {t:TypeId} {u0 u1 u2 u3 u4:Value} (hk:w.heap[b]?=some (.cells #[u0,u1,u2,u3,u4] t (0,0))) (hP:P b) {x:Ex} (hx:ExP w P x (.agg #[u0,u1,u2,u3,u4])):ExsP w P (.slice (some ⟨b,0,none⟩) 1 1) [x]:=by
 refine ⟨_,_,rfl,Nat.le_refl _,by simp[maxLen],fun _=>⟨b,0,rfl,hP,ZL hk,?_⟩⟩
 rw[CellsP]
 have c:=ZI hk
 refine ⟨⟨u0,u1,u2,u3,u4,c 0,c 1,c 2,c 3,c 4,hx⟩,?_⟩
 rw[CellsP]
 trivial
theorem ExApp.reads {w:World} {B:Nat} {P:Nat→Prop} {v:Value} {l:List Ex} (h:ExApp w B P v l):ExsP w (fun b=>P b∨v.ownBlock=some b) v l:=by
 obtain ⟨qs,h1,h2,h3⟩:=h
 obtain ⟨ao,c,rfl,k1,k2,k3⟩:=row_cells h2
 refine ⟨ao,c,rfl,k1,k2,fun h0=>?_⟩
 obtain ⟨g,rfl,hg,hc⟩:=k3 h0
 refine ⟨g,0,rfl,.inr rfl,hg,CellsP.of fun j hj=>?_⟩
 have hj2:j<qs.length:=by omega
 have k:=fun r (hr:r<5)=>flat_at fL 5 (fun _=>rfl) qs j hj2 r hr
 have hr:=h3 j hj
 have e1:qs.getD j fz=qs[j]:=by rw[List.getD_eq_getElem?_getD,List.getElem?_eq_getElem hj2]; rfl
 rw[e1] at hr
 refine ⟨qs[j].1,qs[j].2.1,qs[j].2.2.1,qs[j].2.2.2.1,qs[j].2.2.2.2,?_,?_,?_,?_,?_,hr.mono fun b hb _=>.inl hb.1⟩
 ·rw[Nat.zero_add]; exact hc _ _ (k 0 (by omega))
 ·rw[Nat.zero_add]; exact hc _ _ (k 1 (by omega))
 ·rw[Nat.zero_add]; exact hc _ _ (k 2 (by omega))
 ·rw[Nat.zero_add]; exact hc _ _ (k 3 (by omega))
 ·rw[Nat.zero_add]; exact hc _ _ (k 4 (by omega))
mutual
def sameE : Ex→Ex→Bool
 | .mk o c t f a,.mk o' c' t' f' a'=>(o==o')&&((f==f')&&((c==c')&&(decide (t=t')&&sameL a a')))
def sameL : List Ex→List Ex→Bool
 | [],[]=>true
 | x::l,y::m=>sameE x y&&sameL l m
 | [],_::_=>false
 | _::_,[]=>false
end
mutual
theorem sameE_iff : ∀(x y:Ex),sameE x y=true↔x=y
 | .mk o c t f a,.mk o' c' t' f' a'=>by
  rw[sameE,Bool.and_eq_true,Bool.and_eq_true,Bool.and_eq_true,Bool.and_eq_true,beq_iff_eq,beq_iff_eq,beq_iff_eq,decide_eq_true_eq,sameL_iff a a',Ex.mk.injEq]
  constructor
  ·rintro ⟨h1,h2,h3,h4,h5⟩; exact ⟨h1,h3,h4,h2,h5⟩
  ·rintro ⟨h1,h3,h4,h2,h5⟩; exact ⟨h1,h2,h3,h4,h5⟩
theorem sameL_iff : ∀(l m:List Ex),sameL l m=true↔l=m
 | [],[]=>by rw[sameL]; simp
 | x::l,y::m=>by rw[sameL,Bool.and_eq_true,sameE_iff x y,sameL_iff l m,List.cons.injEq]
 | [],_::_=>by rw[sameL]; simp
 | _::_,[]=>by rw[sameL]; simp
end
theorem sameL_at : ∀{l m:List Ex},l.length=m.length→(sameL l m=true↔∀j,j<l.length→sameE (l.getD j Ex.none) (m.getD j Ex.none)=true)
 | [],[],_=>by rw[sameL]; simp
 | x::l,y::m,h=>by
  rw[sameL,Bool.and_eq_true,sameL_at (by simpa using h)]
  constructor
  ·rintro ⟨h1,h2⟩ j hj
   cases j with
   | zero=>exact h1
   | succ j=>exact h2 j (by simpa using hj)
  ·exact fun h3=>⟨h3 0 (by simp),fun j hj=>h3 (j+1) (by simpa using hj)⟩
 | [],_::_,h=>by simp at h
 | _::_,[],h=>by simp at h
theorem sameL_off {l m:List Ex} (h:l.length≠m.length):sameL l m=false:=by
 cases hs:sameL l m with
 | false=>rfl
 | true=>exact absurd (congrArg List.length ((sameL_iff l m).1 hs)) h
mutual
def depE : Ex→Nat
 | .mk _ _ _ _ a=>depL a+1
def depL : List Ex→Nat
 | []=>0
 | x::l=>Nat.max (depE x) (depL l)
end
theorem depE_eq (x:Ex):depE x=depL x.a+1:=by cases x; rw[depE]; rfl
theorem depL_at : ∀{l:List Ex} {j:Nat},j<l.length→depE (l.getD j Ex.none)≤depL l
 | [],j,h=>by simp at h
 | x::l,0,_=>by rw[depL]; exact Nat.le_max_left _ _
 | x::l,j+1,h=>by
  rw[depL]
  exact Nat.le_trans (depL_at (l:=l) (by simpa using h)) (Nat.le_max_right _ _)
mutual
def TermsE (n:Nat):Ex→Prop
 | .mk _ _ t _ a=>t.length≤n∧TermsL n a
def TermsL (n:Nat):List Ex→Prop
 | []=>True
 | x::l=>TermsE n x∧TermsL n l
end
theorem termsE_eq {n:Nat} (x:Ex):TermsE n x↔x.t.length≤n∧TermsL n x.a:=by cases x; rw[TermsE]; exact Iff.rfl
theorem termsL_at {n:Nat}:∀{l:List Ex} {j:Nat},TermsL n l→j<l.length→TermsE n (l.getD j Ex.none)
 | [],j,_,h=>by simp at h
 | x::l,0,h,_=>by rw[TermsL] at h; exact h.1
 | x::l,j+1,h,hj=>by
  rw[TermsL] at h
  exact termsL_at (l:=l) h.2 (by simpa using hj)
mutual
def nodesE (lev:Nat):Ex→List (Nat×Ex)
 | .mk o c t f a=>(lev,.mk o c t f a)::nodesL (lev+1) a
def nodesL (lev:Nat):List Ex→List (Nat×Ex)
 | []=>[]
 | x::l=>nodesE lev x++nodesL lev l
end
theorem nodesE_eq (lev:Nat) (x:Ex):nodesE lev x=(lev,x)::nodesL (lev+1) x.a:=by cases x; rw[nodesE]; rfl
theorem nodesL_take (lev:Nat):∀{l:List Ex} {k:Nat},k<l.length→nodesL lev (l.take (k+1))=nodesL lev (l.take k)++nodesE lev (l.getD k Ex.none)
 | [],k,h=>by simp at h
 | x::l,0,_=>by
  simp[nodesL]
 | x::l,k+1,h=>by
  rw[List.take_succ_cons,nodesL,nodesL_take lev (by simpa using h),List.take_succ_cons,nodesL,List.append_assoc]
  rfl
def emptyE (x:Ex):Bool:=(x.c==[])&&(x.t.length==0)
def nodeErr (x:Ex) (n:Int):Int:=
 if x.op=0 then if x.a.length≠0∨x.f≠[] then 3 else formErr x.c x.t n
 else if x.op=2 then if x.a.length≠1∨x.c≠[]∨x.t.length≠0 then 3 else readErr x.f 400
 else if x.op=1∨x.op=3∨x.op=4 then if x.a.length=0∨x.c≠[]∨x.t.length≠0∨x.f≠[] then 3 else 0
 else if x.op=5 then if x.a.length≠1∨x.c≠[]∨x.t.length≠0∨x.f≠[] then 3 else 0
 else 12
def scanErr (n:Int):Nat→List (Nat×Ex)→Int
 | _,[]=>0
 | v,p::l=>if 64≤v then 6 else if 8<p.1 then 15 else if nodeErr p.2 n≠0 then nodeErr p.2 n else scanErr n (v+1) l
theorem scan_append (n:Int):∀(l m:List (Nat×Ex)) (v:Nat),scanErr n v (l++m)=if scanErr n v l≠0 then scanErr n v l else scanErr n (v+l.length) m
 | [],m,v=>by rw[List.nil_append,scanErr,if_neg (by simp)]; rfl
 | p::l,m,v=>by
  rw[List.cons_append,scanErr,scanErr,scan_append n l m (v+1),List.length_cons,show v+1+l.length=v+(l.length+1) by omega]
  by_cases h1:64≤v
  ·rw[if_pos h1,if_pos h1]; rfl
  ·rw[if_neg h1,if_neg h1]
   by_cases h2:8<p.1
   ·rw[if_pos h2,if_pos h2]; rfl
   ·rw[if_neg h2,if_neg h2]
    by_cases h3:nodeErr p.2 n≠0
    ·rw[if_pos h3,if_pos h3,if_pos h3]
    ·rw[if_neg h3,if_neg h3]
theorem scan_pre {n:Int} {l m:List (Nat×Ex)} {v:Nat} (h:scanErr n v l≠0):scanErr n v (l++m)=scanErr n v l:=by rw[scan_append,if_pos h]
def exprErr (x:Ex) (n:Int):Int:=if n<0∨64<n then 2 else scanErr n 0 (nodesE 1 x)
end Go.Proofs.YtdcaaehapdhckaaGreatDoor
