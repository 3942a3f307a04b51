/- Blocks that stay; where what is appended lies. -/
import Derived.Test.YtdgimcmappmjdaaGreatDoorRRowM
import Derived.Test.YtdgimcmappmjdaaGreatDoorK9
import Derived.Deep.Onto
import Derived.Deep.CutBlock
import Derived.Test.YtdgimcmappmjdaaGreatDoorK8
set_option linter.unusedSimpArgs false
set_option linter.unusedVariables false
set_option maxRecDepth 100000
namespace Go.Proofs.YtdgimcmappmjdaaGreatDoor
open Go.RowKit Go.Num Go.Flow
set_option maxHeartbeats 4000000

def Keep (P:Nat→Prop) (w w':World):Prop:=w.heap.size≤w'.heap.size∧∀b,P b→b<w.heap.size→w'.heap[b]?=w.heap[b]?
theorem Keep.of_below {P:Nat→Prop} {w w':World} (h:Below w.heap.size w w'):Keep P w w':=⟨h.size,fun b _ hl=>h.block b hl⟩
theorem Keep.of_but {b:Nat} {w w':World} (h:But b w w'):Keep (fun g=>g≠b) w w':=⟨h.size,fun g hg hl=>h.block g hg hl⟩
theorem Keep.of_grown {r:Option Nat} {w w':World} (h:w.grownBy w' r):Keep (fun g=>r≠some g) w w':=⟨h.size,fun g hg hl=>h.block g hl fun e=>hg e.symm⟩
theorem cell_keep {w w':World} {g o:Nat} {u:Value} (h:w'.heap[g]?=w.heap[g]?) (hc:w.cell? ⟨g,o,none⟩=some u):w'.cell? ⟨g,o,none⟩=some u:=(World.cell?_of_block (a:=⟨g,o,none⟩) h).trans hc
theorem run_append_at {P:Program} {w:World} (base:Nat) (t ty e:TypeId) (i:TypeInfo) (z:Value) (size bytes:Nat) (ht:P.underlying t=some (.slice e)) (hi:P.info? e=some i) (hz:i.zero=some z)
  (hsize:i.size=size) (hby:i.bytes=bytes) (hzs:z.cells.size=size) (hsz:0<size)
  (v:Value) (n:Nat) (xs:List Value) (hown:w.ownsRow base e size v n xs)
  (a:Addr) (m c:Nat) (news:List Value) (hl:news.length=m*size) (hnews:∀j u,news[j]?=some u→w.cell? (a.add j)=some u) (h1:∀u∈news,u.oneCell'=true)
  (hm:0<m) (h63:n+m≤maxLen) (hbytes:(n+m)*bytes≤140737488355328) (hbase:base≤w.heap.size) :
  ∃v' w',(Builtin.append_ #[t,t] ty #[v,.slice (some a) m c]).run P w=.ok v' w'∧w'.ownsRow base e size v' (n+m) (xs++news)∧w.grownBy w' v.ownBlock∧(v'.ownBlock=v.ownBlock∨v'.ownBlock=some w.heap.size):=by
 obtain ⟨v',w',hr,h2,h3,-⟩:=run_append_own (P:=P) (w:=w) base t ty e i z size bytes ht hi hz hsize hby hzs hsz v n xs hown a m c news hl hnews h1 h63 hbytes hbase
 refine ⟨v',w',hr,h2,h3,?_⟩
 subst hsize
 subst hby
 have ae:n+m≤9223372036854775807:=by simp only[maxLen] at h63; omega
 have hxs:=hown.1
 rcases hown.2 with ⟨rfl,rfl⟩ | ⟨g,cap,af,rfl,hbg,hg,hnc,hcm,hcs,ag⟩
 ·have ac:=run_append_nil (P:=P) w t ty e i z ht hi hz a m c news hl hnews hm (by omega) (by have hb:=hbytes; simp only[Nat.zero_add] at hb; omega)
  rw[ac] at hr
  simp only[Result.ok.injEq] at hr
  obtain ⟨rfl,rfl⟩:=hr
  exact .inr rfl
 ·by_cases hroom:n+m≤cap
  ·have ad:n*i.size+news.length≤af.size:=by rw[hl,hcs,←Nat.add_mul]; exact Nat.mul_le_mul_right _ hroom
   have ac:=run_append_room (P:=P) w t ty e i ht hi g n cap af hg a m c news hl hnews h1 hroom ad
   rw[ac] at hr
   simp only[Result.ok.injEq] at hr
   obtain ⟨rfl,rfl⟩:=hr
   exact .inl rfl
  ·have aa:∀j u,xs[j]?=some u→w.cell? ((⟨g,0,none⟩:Addr).add j)=some u:=hown.cells (g:=g) rfl
   have ac:=run_append_grow (P:=P) w t ty e i z ht hi hz ⟨g,0,none⟩ n cap xs hxs aa a m c news hl hnews (by omega) (by omega) (growslice_fits (by omega) hbytes)
   rw[ac] at hr
   simp only[Result.ok.injEq] at hr
   obtain ⟨rfl,rfl⟩:=hr
   exact .inr rfl
theorem row_keep {w w':World} {B:Nat} {t:TypeId} {k n:Nat} {v:Value} {l:List Value} (h:w.ownsRow B t k v n l) (hk:Keep (fun b=>v.ownBlock=some b) w w'):w'.ownsRow B t k v n l:=by
 refine ⟨h.1,?_⟩
 rcases h.2 with h1 | ⟨g,cap,cur,h1,h2,h3,h4⟩
 ·exact .inl h1
 ·exact .inr ⟨g,cap,cur,h1,h2,(hk.2 g (by rw[h1]; rfl) (ZL h3)).trans h3,h4⟩
def TermsP (w:World) (P:Nat→Prop) (v:Value) (l:List (Int×List UInt8)):Prop:=∃ao c,v=.slice ao l.length c∧l.length≤c∧c≤maxLen∧(0<l.length→∃g o,ao=some ⟨g,o,none⟩∧P g∧g<w.heap.size∧∀j,j<l.length→w.cell? ⟨g,o+j*2,none⟩=some (.int .i64 (l.getD j (0,[])).1)∧w.cell? ⟨g,o+j*2+1,none⟩=some (.string ⟨(l.getD j (0,[])).2.toArray⟩))
theorem TermsP.keep {P:Nat→Prop} {w w':World} (hk:Keep P w w') {v:Value} {l:List (Int×List UInt8)} (h:TermsP w P v l):TermsP w' P v l:=by
 obtain ⟨ao,c,e,h1,h2,h3⟩:=h
 refine ⟨ao,c,e,h1,h2,fun h0=>?_⟩
 obtain ⟨g,o,e,hp,hl,hc⟩:=h3 h0
 exact ⟨g,o,e,hp,Nat.lt_of_lt_of_le hl hk.1,fun j hj=>⟨cell_keep (hk.2 g hp hl) (hc j hj).1,cell_keep (hk.2 g hp hl) (hc j hj).2⟩⟩
theorem TermsP.mono {P Q:Nat→Prop} {w:World} (hk:∀b,P b→b<w.heap.size→Q b) {v:Value} {l:List (Int×List UInt8)} (h:TermsP w P v l):TermsP w Q v l:=by
 obtain ⟨ao,c,e,h1,h2,h3⟩:=h
 refine ⟨ao,c,e,h1,h2,fun h0=>?_⟩
 obtain ⟨g,o,e,hp,hl,hc⟩:=h3 h0
 exact ⟨g,o,e,hk g hp hl,hl,hc⟩
theorem TermsP.reads {P:Nat→Prop} {w:World} {v:Value} {l:List (Int×List UInt8)} (h:TermsP w P v l):TermsZ w v l:=by
 obtain ⟨ao,c,e,h1,h2,h3⟩:=h
 refine ⟨ao,c,e,h1,h2,fun h0=>?_⟩
 obtain ⟨g,o,e,hp,hl,hc⟩:=h3 h0
 exact ⟨g,o,e,hl,hc⟩
theorem TermsZ.at {w:World} {v:Value} {l:List (Int×List UInt8)} (h:TermsZ w v l):TermsP w (fun b=>b<w.heap.size) v l:=by
 obtain ⟨ao,c,e,h1,h2,h3⟩:=h
 refine ⟨ao,c,e,h1,h2,fun h0=>?_⟩
 obtain ⟨g,o,e,hl,hc⟩:=h3 h0
 exact ⟨g,o,e,hl,hl,hc⟩
theorem TermRow.at {w:World} {B:Nat} {v:Value} {l:List (Nat×List UInt8)} (h:TermRow w B v l):TermsP w (fun b=>B≤b) v (zTerms l):=by
 have hB:∀g,v.ownBlock=some g→B≤g:=fun g e=>(World.ownsRow.lt h g e).1
 obtain ⟨ao,c,rfl,h1,h2,h3⟩:=(h.reads).z
 refine ⟨ao,c,rfl,h1,h2,fun h0=>?_⟩
 obtain ⟨g,o,rfl,hl,hc⟩:=h3 h0
 exact ⟨g,o,rfl,hB g rfl,hl,hc⟩
theorem termsP_none (w:World) (P:Nat→Prop):TermsP w P (.slice none 0 0) []:=⟨none,0,rfl,Nat.le_refl _,by unfold maxLen; omega,fun h=>absurd h (by simp)⟩
mutual
def ExP (w:World) (P:Nat→Prop):Ex→Value→Prop
 | .mk op c t f a,v=>∃tv ao cap,v=.agg #[.int .i64 op,.string ⟨c.toArray⟩,tv,.string ⟨f.toArray⟩,.slice ao a.length cap]∧TermsP w P tv t∧a.length≤cap∧cap≤maxLen∧(0<a.length→∃g o,ao=some ⟨g,o,none⟩∧P g∧g<w.heap.size∧CellsP w P a g o)
def CellsP (w:World) (P:Nat→Prop):List Ex→Nat→Nat→Prop
 | [],_,_=>True
 | x::l,g,o=>(∃v0 v1 v2 v3 v4,w.cell? ⟨g,o,Option.none⟩=some v0∧w.cell? ⟨g,o+1,Option.none⟩=some v1∧w.cell? ⟨g,o+2,Option.none⟩=some v2∧w.cell? ⟨g,o+3,Option.none⟩=some v3∧w.cell? ⟨g,o+4,Option.none⟩=some v4∧ExP w P x (.agg #[v0,v1,v2,v3,v4]))∧CellsP w P l g (o+5)
end
def ExsP (w:World) (P:Nat→Prop) (v:Value) (l:List Ex):Prop:=∃ao cap,v=.slice ao l.length cap∧l.length≤cap∧cap≤maxLen∧(0<l.length→∃g o,ao=some ⟨g,o,none⟩∧P g∧g<w.heap.size∧CellsP w P l g o)
theorem ExP.out {w:World} {P:Nat→Prop} {x:Ex} {v:Value} (h:ExP w P x v):∃tv ao cap,v=.agg #[.int .i64 x.op,.string ⟨x.c.toArray⟩,tv,.string ⟨x.f.toArray⟩,.slice ao x.a.length cap]∧TermsP w P tv x.t∧ExsP w P (.slice ao x.a.length cap) x.a:=by
 cases x
 rw[ExP] at h
 obtain ⟨tv,ao,cap,e,ht,h1,h2,h3⟩:=h
 exact ⟨tv,ao,cap,e,ht,ao,cap,rfl,h1,h2,h3⟩
theorem ExP.of {w:World} {P:Nat→Prop} {x:Ex} {tv av:Value} (ht:TermsP w P tv x.t) (ha:ExsP w P av x.a):ExP w P x (.agg #[.int .i64 x.op,.string ⟨x.c.toArray⟩,tv,.string ⟨x.f.toArray⟩,av]):=by
 cases x
 rw[ExP]
 obtain ⟨ao,cap,rfl,h1,h2,h3⟩:=ha
 exact ⟨tv,ao,cap,rfl,ht,h1,h2,h3⟩
mutual
theorem ExP.keep {P:Nat→Prop} {w w':World} (hk:Keep P w w'):∀{x:Ex} {v:Value},ExP w P x v→ExP w' P x v
 | .mk op c t f a,v,h=>by
  rw[ExP] at h⊢
  obtain ⟨tv,ao,cap,e,ht,h1,h2,h3⟩:=h
  refine ⟨tv,ao,cap,e,ht.keep hk,h1,h2,fun h0=>?_⟩
  obtain ⟨g,o,e,hp,hg,hc⟩:=h3 h0
  exact ⟨g,o,e,hp,Nat.lt_of_lt_of_le hg hk.1,CellsP.keep hk hp hg hc⟩
theorem CellsP.keep {P:Nat→Prop} {w w':World} (hk:Keep P w w'):∀{l:List Ex} {g o:Nat},P g→g<w.heap.size→CellsP w P l g o→CellsP w' P l g o
 | [],g,o,_,_,_=>by rw[CellsP]; trivial
 | x::l,g,o,hp,hg,h=>by
  rw[CellsP] at h⊢
  obtain ⟨⟨v0,v1,v2,v3,v4,c0,c1,c2,c3,c4,hx⟩,hl⟩:=h
  have hb:=hk.2 g hp hg
  exact ⟨⟨v0,v1,v2,v3,v4,cell_keep hb c0,cell_keep hb c1,cell_keep hb c2,cell_keep hb c3,cell_keep hb c4,ExP.keep hk hx⟩,CellsP.keep hk hp hg hl⟩
end
mutual
theorem ExP.mono {P Q:Nat→Prop} {w:World} (hk:∀b,P b→b<w.heap.size→Q b):∀{x:Ex} {v:Value},ExP w P x v→ExP w Q x v
 | .mk op c t f a,v,h=>by
  rw[ExP] at h⊢
  obtain ⟨tv,ao,cap,e,ht,h1,h2,h3⟩:=h
  refine ⟨tv,ao,cap,e,ht.mono hk,h1,h2,fun h0=>?_⟩
  obtain ⟨g,o,e,hp,hg,hc⟩:=h3 h0
  exact ⟨g,o,e,hk g hp hg,hg,CellsP.mono hk hc⟩
theorem CellsP.mono {P Q:Nat→Prop} {w:World} (hk:∀b,P b→b<w.heap.size→Q b):∀{l:List Ex} {g o:Nat},CellsP w P l g o→CellsP w Q l g o
 | [],g,o,_=>by rw[CellsP]; trivial
 | x::l,g,o,h=>by
  rw[CellsP] at h⊢
  obtain ⟨⟨v0,v1,v2,v3,v4,c0,c1,c2,c3,c4,hx⟩,hl⟩:=h
  exact ⟨⟨v0,v1,v2,v3,v4,c0,c1,c2,c3,c4,ExP.mono hk hx⟩,CellsP.mono hk hl⟩
end
mutual
theorem ExP.reads {P:Nat→Prop} {w:World}:∀{x:Ex} {v:Value},ExP w P x v→ExIn w x v
 | .mk op c t f a,v,h=>by
  rw[ExP] at h
  rw[ExIn]
  obtain ⟨tv,ao,cap,e,ht,h1,h2,h3⟩:=h
  refine ⟨tv,ao,cap,e,ht.reads,h1,h2,fun h0=>?_⟩
  obtain ⟨g,o,e,hp,hg,hc⟩:=h3 h0
  exact ⟨g,o,e,hg,CellsP.reads hc⟩
theorem CellsP.reads {P:Nat→Prop} {w:World}:∀{l:List Ex} {g o:Nat},CellsP w P l g o→CellsIn w l g o
 | [],g,o,_=>by rw[CellsIn]; trivial
 | x::l,g,o,h=>by
  rw[CellsP] at h
  rw[CellsIn]
  obtain ⟨⟨v0,v1,v2,v3,v4,c0,c1,c2,c3,c4,hx⟩,hl⟩:=h
  exact ⟨⟨v0,v1,v2,v3,v4,c0,c1,c2,c3,c4,ExP.reads hx⟩,CellsP.reads hl⟩
end
mutual
theorem ExIn.at {w:World}:∀{x:Ex} {v:Value},ExIn w x v→ExP w (fun b=>b<w.heap.size) x v
 | .mk op c t f a,v,h=>by
  rw[ExIn] at h
  rw[ExP]
  obtain ⟨tv,ao,cap,e,ht,h1,h2,h3⟩:=h
  refine ⟨tv,ao,cap,e,ht.at,h1,h2,fun h0=>?_⟩
  obtain ⟨g,o,e,hg,hc⟩:=h3 h0
  exact ⟨g,o,e,hg,hg,CellsIn.atP hc⟩
theorem CellsIn.atP {w:World}:∀{l:List Ex} {g o:Nat},CellsIn w l g o→CellsP w (fun b=>b<w.heap.size) l g o
 | [],g,o,_=>by rw[CellsP]; trivial
 | x::l,g,o,h=>by
  rw[CellsIn] at h
  rw[CellsP]
  obtain ⟨⟨v0,v1,v2,v3,v4,c0,c1,c2,c3,c4,hx⟩,hl⟩:=h
  exact ⟨⟨v0,v1,v2,v3,v4,c0,c1,c2,c3,c4,ExIn.at hx⟩,CellsIn.atP hl⟩
end
theorem ExsP.keep {P:Nat→Prop} {w w':World} (hk:Keep P w w') {v:Value} {l:List Ex} (h:ExsP w P v l):ExsP w' P v l:=by
 obtain ⟨ao,cap,e,h1,h2,h3⟩:=h
 refine ⟨ao,cap,e,h1,h2,fun h0=>?_⟩
 obtain ⟨g,o,e,hp,hg,hc⟩:=h3 h0
 exact ⟨g,o,e,hp,Nat.lt_of_lt_of_le hg hk.1,hc.keep hk hp hg⟩
theorem ExsP.mono {P Q:Nat→Prop} {w:World} (hk:∀b,P b→b<w.heap.size→Q b) {v:Value} {l:List Ex} (h:ExsP w P v l):ExsP w Q v l:=by
 obtain ⟨ao,cap,e,h1,h2,h3⟩:=h
 refine ⟨ao,cap,e,h1,h2,fun h0=>?_⟩
 obtain ⟨g,o,e,hp,hg,hc⟩:=h3 h0
 exact ⟨g,o,e,hk g hp hg,hg,hc.mono hk⟩
theorem ExsP.reads {P:Nat→Prop} {w:World} {v:Value} {l:List Ex} (h:ExsP w P v l):ExsIn w v l:=by
 obtain ⟨ao,cap,e,h1,h2,h3⟩:=h
 refine ⟨ao,cap,e,h1,h2,fun h0=>?_⟩
 obtain ⟨g,o,e,hp,hg,hc⟩:=h3 h0
 exact ⟨g,o,e,hg,hc.reads⟩
theorem exsP_none (w:World) (P:Nat→Prop):ExsP w P (.slice none 0 0) []:=⟨none,0,rfl,Nat.le_refl _,by unfold maxLen; omega,fun h=>absurd h (by simp)⟩
theorem CellsP.of {w:World} {P:Nat→Prop} {g:Nat}:∀{l:List Ex} {o:Nat},(∀j,j<l.length→∃v0 v1 v2 v3 v4,w.cell? ⟨g,o+j*5,none⟩=some v0∧w.cell? ⟨g,o+j*5+1,none⟩=some v1∧w.cell? ⟨g,o+j*5+2,none⟩=some v2∧w.cell? ⟨g,o+j*5+3,none⟩=some v3∧w.cell? ⟨g,o+j*5+4,none⟩=some v4∧ExP w P (l.getD j Ex.none) (.agg #[v0,v1,v2,v3,v4]))→CellsP w P l g o
 | [],o,_=>by rw[CellsP]; trivial
 | x::l,o,h=>by
  rw[CellsP]
  refine ⟨by simpa using h 0 (by simp),CellsP.of fun j hj=>?_⟩
  have k:=h (j+1) (by simpa using hj)
  rw[show o+(j+1)*5=o+5+j*5 by omega] at k
  exact k
theorem CellsP.at {w:World} {P:Nat→Prop}:∀{l:List Ex} {g o j:Nat},CellsP w P l g o→j<l.length→∃v0 v1 v2 v3 v4,w.cell? ⟨g,o+j*5,none⟩=some v0∧w.cell? ⟨g,o+j*5+1,none⟩=some v1∧w.cell? ⟨g,o+j*5+2,none⟩=some v2∧w.cell? ⟨g,o+j*5+3,none⟩=some v3∧w.cell? ⟨g,o+j*5+4,none⟩=some v4∧ExP w P (l.getD j Ex.none) (.agg #[v0,v1,v2,v3,v4])
 | [],g,o,j,_,hj=>by simp at hj
 | x::l,g,o,0,h,_=>by
  rw[CellsP] at h
  simpa using h.1
 | x::l,g,o,j+1,h,hj=>by
  rw[CellsP] at h
  have ih:=CellsP.at (j:=j) h.2 (by simpa using hj)
  rw[show o+5+j*5=o+(j+1)*5 by omega] at ih
  exact ih
abbrev Q5 := Value×Value×Value×Value×Value
def fV (q:Q5):Value:=.agg #[q.1,q.2.1,q.2.2.1,q.2.2.2.1,q.2.2.2.2]
def fL (q:Q5):List Value:=[q.1,q.2.1,q.2.2.1,q.2.2.2.1,q.2.2.2.2]
def fz : Q5:=(.int .i64 0,.string ⟨#[]⟩,.slice none 0 0,.string ⟨#[]⟩,.slice none 0 0)
def ExApp (w:World) (B:Nat) (P:Nat→Prop) (v:Value) (l:List Ex):Prop:=∃qs:List Q5,qs.length=l.length∧w.ownsRow B 63 5 v l.length (qs.flatMap fL)∧∀j,j<l.length→ExP w (fun b=>P b∧v.ownBlock≠some b) (l.getD j Ex.none) (fV (qs.getD j fz))
theorem exApp_nil (w:World) (B:Nat) (P:Nat→Prop):ExApp w B P (.slice none 0 0) []:=⟨[],rfl,World.ownsRow_nil _ _ _ _,fun j hj=>by simp at hj⟩
theorem ExApp.keep {P:Nat→Prop} {w w':World} {B:Nat} {v:Value} {l:List Ex} (h:ExApp w B P v l) (hk:Keep (fun b=>P b∨v.ownBlock=some b) w w'):ExApp w' B P v l:=by
 obtain ⟨qs,h1,h2,h3⟩:=h
 exact ⟨qs,h1,row_keep h2 ⟨hk.1,fun b hb=>hk.2 b (.inr hb)⟩,fun j hj=>(h3 j hj).keep ⟨hk.1,fun b hb=>hk.2 b (.inl hb.1)⟩⟩
theorem ExApp.below {P:Nat→Prop} {w w':World} {B:Nat} {v:Value} {l:List Ex} (h:ExApp w B P v l) (hb:Below w.heap.size w w'):ExApp w' B P v l:=h.keep (Keep.of_below hb)
theorem ExApp.mono {P Q:Nat→Prop} {w:World} {B:Nat} {v:Value} {l:List Ex} (h:ExApp w B P v l) (hk:∀b,P b→b<w.heap.size→Q b):ExApp w B Q v l:=by
 obtain ⟨qs,h1,h2,h3⟩:=h
 exact ⟨qs,h1,h2,fun j hj=>(h3 j hj).mono fun b hb hl=>⟨hk b hb.1 hl,hb.2⟩⟩
theorem ExApp.shape {P:Nat→Prop} {w:World} {B:Nat} {v:Value} {l:List Ex} (h:ExApp w B P v l):∃ao c,v=.slice ao l.length c∧l.length≤c∧c≤maxLen:=by
 obtain ⟨qs,h1,h2,h3⟩:=h
 exact row_shape h2
theorem ExApp.own {P:Nat→Prop} {w:World} {B:Nat} {v:Value} {l:List Ex} (h:ExApp w B P v l):∀q,v.ownBlock=some q→B≤q:=by
 obtain ⟨qs,h1,h2,h3⟩:=h
 exact fun q e=>(World.ownsRow.lt h2 q e).1
theorem ExApp.own_lt {P:Nat→Prop} {w:World} {B:Nat} {v:Value} {l:List Ex} (h:ExApp w B P v l):∀q,v.ownBlock=some q→q<w.heap.size:=by
 obtain ⟨qs,h1,h2,h3⟩:=h
 exact fun q e=>(World.ownsRow.lt h2 q e).2
theorem infoExpr : (Tryz.prog.info? 63).map (fun i=>(i.zero,i.size,i.bytes))=some (some (.agg #[.int .i64 0,.string ⟨#[]⟩,.slice none 0 0,.string ⟨#[]⟩,.slice none 0 0]),5,88):=by kernel_rfl
theorem ExApp.more {w w':World} {B:Nat} {P:Nat→Prop} {v v':Value} {l m:List Ex} {qs rs:List Q5} (h1:qs.length=l.length) (h3:∀j,j<l.length→ExP w (fun b=>P b∧v.ownBlock≠some b) (l.getD j Ex.none) (fV (qs.getD j fz)))
  (k1:rs.length=m.length) (k3:∀j,j<m.length→ExP w (fun b=>P b∧v.ownBlock≠some b) (m.getD j Ex.none) (fV (rs.getD j fz)))
  (h':w'.ownsRow B 63 5 v' (l.length+m.length) (qs.flatMap fL++rs.flatMap fL)) (hg:w.grownBy w' v.ownBlock) (hw:v'.ownBlock=v.ownBlock∨v'.ownBlock=some w.heap.size):ExApp w' B P v' (l++m):=by
 have hk:Keep (fun b=>P b∧v.ownBlock≠some b) w w':=⟨hg.size,fun b hb hl=>(Keep.of_grown hg).2 b hb.2 hl⟩
 have hm:∀{x:Ex} {u:Value},ExP w (fun b=>P b∧v.ownBlock≠some b) x u→ExP w' (fun b=>P b∧v'.ownBlock≠some b) x u:=fun {x u} hx=>by
  refine (hx.mono (Q:=fun b=>(P b∧v.ownBlock≠some b)∧b<w.heap.size) fun b hb hl=>⟨hb,hl⟩).keep ⟨hk.1,fun b hb hl=>hk.2 b hb.1 hl⟩ |>.mono fun b hb _=>⟨hb.1.1,fun e=>?_⟩
  rcases hw with h | h
  ·rw[h] at e; exact hb.1.2 e
  ·rw[h] at e
   simp only[Option.some.injEq] at e
   omega
 refine ⟨qs++rs,by simp[h1,k1],?_,fun j hj=>?_⟩
 ·rw[List.length_append,List.flatMap_append]
  exact h'
 ·rw[List.length_append] at hj
  by_cases hj2:j<l.length
  ·have e1:(qs++rs).getD j fz=qs.getD j fz:=by rw[List.getD_eq_getElem?_getD,List.getElem?_append_left (by omega),←List.getD_eq_getElem?_getD]
   have e2:(l++m).getD j Ex.none=l.getD j Ex.none:=by rw[List.getD_eq_getElem?_getD,List.getElem?_append_left (by omega),←List.getD_eq_getElem?_getD]
   rw[e1,e2]
   exact hm (h3 j hj2)
  ·have e1:(qs++rs).getD j fz=rs.getD (j-l.length) fz:=by rw[List.getD_eq_getElem?_getD,List.getElem?_append_right (by omega),←List.getD_eq_getElem?_getD,h1]
   have e2:(l++m).getD j Ex.none=m.getD (j-l.length) Ex.none:=by rw[List.getD_eq_getElem?_getD,List.getElem?_append_right (by omega),←List.getD_eq_getElem?_getD]
   rw[e1,e2]
   exact hm (k3 _ (by omega))
theorem ex_one {x:Ex} {w:World} {P:Nat→Prop} {q:Q5} (h:ExP w P x (fV q)):∀u,u∈fL q→u.oneCell'=true:=by
 obtain ⟨tv,ao,cap,e,ht,ha⟩:=h.out
 obtain ⟨ta,tc,rfl,-⟩:=ht
 unfold fV at e
 simp only[Value.agg.injEq] at e
 have e:=congrArg Array.toList e
 simp only[List.cons.injEq,and_true] at e
 obtain ⟨e0,e1,e2,e3,e4⟩:=e
 intro u hu
 unfold fL at hu
 rw[e0,e1,e2,e3,e4] at hu
 simp only[List.mem_cons,List.not_mem_nil,or_false] at hu
 rcases hu with rfl | rfl | rfl | rfl | rfl<;>rfl
theorem append_exs {w:World} {B:Nat} {P:Nat→Prop} {v:Value} {l m:List Ex} (h:ExApp w B P v l) (hl:l.length+m.length≤100000) (hm:0<m.length) {x:Value} (hx:ExsP w (fun b=>P b∧v.ownBlock≠some b) x m) (hB:B≤w.heap.size) (ty:TypeId) :
  ∃v' w',(Builtin.append_ #[61,61] ty #[v,x]).run Tryz.prog w=.ok v' w'∧ExApp w' B P v' (l++m)∧w.grownBy w' v.ownBlock∧Below B w w':=by
 obtain ⟨qs,h1,h2,h3⟩:=h
 obtain ⟨ao,cap,rfl,m1,m2,m3⟩:=hx
 obtain ⟨g,o,rfl,-,hg,hc⟩:=m3 hm
 obtain ⟨i0,hi,hz,hs,hby⟩:∃i,Tryz.prog.info? 63=some i∧i.zero=some (.agg #[.int .i64 0,.string ⟨#[]⟩,.slice none 0 0,.string ⟨#[]⟩,.slice none 0 0])∧i.size=5∧i.bytes=88:=by
  have h:=infoExpr
  cases hx:Tryz.prog.info? 63 with
  | none=>rw[hx] at h; simp at h
  | some i=>rw[hx] at h; simp at h; exact ⟨i,rfl,h.1,h.2.1,h.2.2⟩
 obtain ⟨rs,k1,k2,k3⟩:∃rs:List Q5,rs.length=m.length∧(∀j,j<m.length→∀r,r<5→∃u,(fL (rs.getD j fz))[r]?=some u∧w.cell? ⟨g,o+j*5+r,none⟩=some u)∧∀j,j<m.length→ExP w (fun b=>P b∧v.ownBlock≠some b) (m.getD j Ex.none) (fV (rs.getD j fz)):=by
  have h9:∀k,k≤m.length→∃rs:List Q5,rs.length=k∧(∀j,j<k→∀r,r<5→∃u,(fL (rs.getD j fz))[r]?=some u∧w.cell? ⟨g,o+j*5+r,none⟩=some u)∧∀j,j<k→ExP w (fun b=>P b∧v.ownBlock≠some b) (m.getD j Ex.none) (fV (rs.getD j fz)):=by
   intro k
   induction k with
   | zero=>exact fun _=>⟨[],rfl,fun j hj=>by omega,fun j hj=>by omega⟩
   | succ k ih=>
    intro hk
    obtain ⟨rs,q1,q2,q3⟩:=ih (by omega)
    obtain ⟨v0,v1,v2,v3,v4,c0,c1,c2,c3,c4,hx⟩:=hc.at (j:=k) (by omega)
    have ea:∀j,j<k→(rs++[((v0,v1,v2,v3,v4):Q5)]).getD j fz=rs.getD j fz:=fun j hj=>by rw[List.getD_eq_getElem?_getD,List.getElem?_append_left (by omega),←List.getD_eq_getElem?_getD]
    have eb:(rs++[((v0,v1,v2,v3,v4):Q5)]).getD k fz=(v0,v1,v2,v3,v4):=by rw[←q1,List.getD_eq_getElem?_getD,List.getElem?_append_right (Nat.le_refl _),Nat.sub_self]; rfl
    refine ⟨rs++[(v0,v1,v2,v3,v4)],by simp[q1],fun j hj r hr=>?_,fun j hj=>?_⟩
    ·by_cases hj2:j<k
     ·rw[ea j hj2]; exact q2 j hj2 r hr
     ·obtain rfl:j=k:=by omega
      rw[eb]
      match r,hr with
      | 0,_=>exact ⟨v0,rfl,c0⟩
      | 1,_=>exact ⟨v1,rfl,c1⟩
      | 2,_=>exact ⟨v2,rfl,c2⟩
      | 3,_=>exact ⟨v3,rfl,c3⟩
      | 4,_=>exact ⟨v4,rfl,c4⟩
    ·by_cases hj2:j<k
     ·rw[ea j hj2]; exact q3 j hj2
     ·obtain rfl:j=k:=by omega
      rw[eb]
      exact hx
  exact h9 _ (Nat.le_refl _)
 have aa:∀l:List Q5,(l.flatMap fL).length=l.length*5:=fun l=>by
  induction l with
  | nil=>rfl
  | cons a l ih=>rw[List.flatMap_cons,List.length_append,ih,List.length_cons]; show 5+_=_; omega
 obtain ⟨v',w',e,h4,h5,h6⟩:=run_append_at (P:=Tryz.prog) (w:=w) B 61 ty 63 i0 _ 5 88 Tryz.underlying61 hi hz hs hby rfl (by decide) v l.length (qs.flatMap fL) h2 ⟨g,o,none⟩ m.length cap (rs.flatMap fL) (by rw[aa,k1]) (fun j u hu=>by
  have hj:j<rs.length*5:=by
   rcases Nat.lt_or_ge j (rs.length*5) with h | h
   ·exact h
   ·rw[List.getElem?_eq_none (by rw[aa]; exact h)] at hu; cases hu
  have hd:j/5<rs.length:=by omega
  have hf:=flat_at fL 5 (fun _=>rfl) rs (j/5) hd (j%5) (Nat.mod_lt _ (by decide))
  have ej:j/5*5+j%5=j:=by omega
  rw[ej,hu] at hf
  obtain ⟨u',e1,e2⟩:=k2 (j/5) (by omega) (j%5) (Nat.mod_lt _ (by decide))
  rw[List.getD_eq_getElem?_getD,List.getElem?_eq_getElem hd] at e1
  have e3:some u=some u':=hf.trans e1
  simp only[Option.some.injEq] at e3
  subst e3
  have e4:(⟨g,o,none⟩:Addr).add j=⟨g,o+j/5*5+j%5,none⟩:=by
   have e5:o+j/5*5+j%5=o+j:=by omega
   rw[e5]
   unfold Addr.add
   split
   ·next h=>subst h; rfl
   ·rfl
  rw[e4]
  exact e2) (fun u hu=>by
  obtain ⟨q,hq,hu⟩:=List.mem_flatMap.1 hu
  obtain ⟨j,hj,rfl⟩:=List.getElem_of_mem hq
  have h9:=k3 j (by omega)
  rw[List.getD_eq_getElem?_getD (l:=rs),List.getElem?_eq_getElem hj] at h9
  exact ex_one h9 u hu) hm (by unfold maxLen; omega) (by omega) hB
 exact ⟨v',w',e,ExApp.more h1 h3 k1 k3 h4 h5 h6,h5,(ZR B w).grown h5 hB (fun q e=>(World.ownsRow.lt h2 q e).1)⟩
theorem one_exs {w:World} {P:Nat→Prop} {b:Nat} {t:TypeId} {u0 u1 u2 u3 u4:Value} (hk:w.heap[b]?=some (.cells #[u0,u1,u2,u3,u4] t (0,0))) (hP:P b) {x:Ex} (hx:ExP w P x (.agg #[u0,u1,u2,u3,u4])):ExsP w P (.slice (some ⟨b,0,none⟩) 1 1) [x]:=by
 refine ⟨_,_,rfl,Nat.le_refl _,by simp[maxLen],fun _=>⟨b,0,rfl,hP,ZL hk,?_⟩⟩
 rw[CellsP]
 have c:=ZI hk
 refine ⟨⟨u0,u1,u2,u3,u4,c 0,c 1,c 2,c 3,c 4,hx⟩,?_⟩
 rw[CellsP]
 trivial
theorem ExApp.reads {w:World} {B:Nat} {P:Nat→Prop} {v:Value} {l:List Ex} (h:ExApp w B P v l):ExsP w (fun b=>P b∨v.ownBlock=some b) v l:=by
 obtain ⟨qs,h1,h2,h3⟩:=h
 obtain ⟨ao,c,rfl,k1,k2,k3⟩:=row_cells h2
 refine ⟨ao,c,rfl,k1,k2,fun h0=>?_⟩
 obtain ⟨g,rfl,hg,hc⟩:=k3 h0
 refine ⟨g,0,rfl,.inr rfl,hg,CellsP.of fun j hj=>?_⟩
 have aa:j<qs.length:=by omega
 have k:=fun r (hr:r<5)=>flat_at fL 5 (fun _=>rfl) qs j aa r hr
 have hr:=h3 j hj
 have e1:qs.getD j fz=qs[j]:=by rw[List.getD_eq_getElem?_getD,List.getElem?_eq_getElem aa]; rfl
 rw[e1] at hr
 refine ⟨qs[j].1,qs[j].2.1,qs[j].2.2.1,qs[j].2.2.2.1,qs[j].2.2.2.2,?_,?_,?_,?_,?_,hr.mono fun b hb _=>.inl hb.1⟩
 ·rw[Nat.zero_add]; exact hc _ _ (k 0 (by omega))
 ·rw[Nat.zero_add]; exact hc _ _ (k 1 (by omega))
 ·rw[Nat.zero_add]; exact hc _ _ (k 2 (by omega))
 ·rw[Nat.zero_add]; exact hc _ _ (k 3 (by omega))
 ·rw[Nat.zero_add]; exact hc _ _ (k 4 (by omega))
set_option maxHeartbeats 8000000
def GrIn (w:World) (b:Nat) (l:List Int) (d c:Nat):Prop:=∃ao cv,w.heap[b]?=some (.cells #[.slice ao l.length cv,.int .i64 (d:Int),.int .i64 (c:Int)] 53 (0,0))∧l.length≤cv∧cv≤maxLen∧(0<l.length→∃g o,ao=some ⟨g,o,none⟩∧g<b∧∀j,j<l.length→w.cell? ⟨g,o+j,none⟩=some (.int .u8 (l.getD j 0))∧0≤l.getD j 0∧l.getD j 0≤255)
theorem GrIn.keep {w w':World} {b:Nat} {l:List Int} {d c:Nat} (h:GrIn w b l d c) (hk:Keep (fun _=>True) w w'):GrIn w' b l d c:=by
 obtain ⟨ao,cv,h0,h1,h2,h3⟩:=h
 refine ⟨ao,cv,(hk.2 b trivial (ZL h0)).trans h0,h1,h2,fun hl=>?_⟩
 obtain ⟨g,o,e,hn,hc⟩:=h3 hl
 exact ⟨g,o,e,hn,fun j hj=>⟨cell_keep (hk.2 g trivial (Nat.lt_trans hn (ZL h0))) (hc j hj).1,(hc j hj).2⟩⟩
theorem GrIn.kept {w w':World} {b:Nat} {l:List Int} {d c:Nat} (h:GrIn w b l d c) (hk:∀g,g≤b→w'.heap[g]?=w.heap[g]?):GrIn w' b l d c:=by
 obtain ⟨ao,cv,h0,h1,h2,h3⟩:=h
 refine ⟨ao,cv,(hk b (Nat.le_refl _)).trans h0,h1,h2,fun hl=>?_⟩
 obtain ⟨g,o,e,hn,hc⟩:=h3 hl
 exact ⟨g,o,e,hn,fun j hj=>⟨cell_keep (hk g (Nat.le_of_lt hn)) (hc j hj).1,(hc j hj).2⟩⟩
theorem GrIn.far {w w':World} {b b2:Nat} {l:List Int} {d c:Nat} (h:GrIn w b l d c) (hlt:b<b2) (hu:But b2 w w'):GrIn w' b l d c:=by
 have hb:b<w.heap.size:=by
  obtain ⟨ao,cv,h0,-⟩:=h
  exact ZL h0
 exact h.kept fun g hg=>hu.block g (by omega) (by omega)
theorem GrIn.below {w w':World} {b:Nat} {l:List Int} {d c:Nat} (h:GrIn w b l d c) (hb:Below w.heap.size w w'):GrIn w' b l d c:=h.keep (Keep.of_below hb)
theorem GrIn.lt {w:World} {b:Nat} {l:List Int} {d c:Nat} (h:GrIn w b l d c):b<w.heap.size:=by
 obtain ⟨ao,cv,h0,-⟩:=h
 exact ZL h0
abbrev Gb (b:Nat) (w w':World):Prop:=w.grownBy w' (some b)
theorem Gb.refl (b:Nat) (w:World):Gb b w w:=⟨rfl,rfl,rfl,Nat.le_refl _,fun _ _ _=>rfl⟩
theorem Gb.of {b:Nat} {w w':World} (h:Below w.heap.size w w'):Gb b w w':=⟨h.os,h.tape,h.output,h.size,fun k hk _=>h.block k hk⟩
theorem Gb.trans {b:Nat} {w w' w2:World} (h:Gb b w w') (k:Gb b w' w2):Gb b w w2:=⟨k.os.trans h.os,k.tape.trans h.tape,k.output.trans h.output,Nat.le_trans h.size k.size,fun q hq hn=>(k.block q (Nat.lt_of_lt_of_le hq h.size) hn).trans (h.block q hq hn)⟩
theorem Gb.more {b:Nat} {w w' w2:World} (h:Gb b w w') (k:Below w'.heap.size w' w2):Gb b w w2:=h.trans (Gb.of k)
theorem Gb.set {b:Nat} {w w':World} (h:Gb b w w') (i:Nat) (u:Value):Gb b w (w'.setCell ⟨b,i,none⟩ u):=⟨h.os,h.tape,h.output,by simpa[World.setCell] using h.size,fun k hk hn=>(Below.heap_setCell _ _ _ _ (fun e=>hn (by rw[e]))).trans (h.block k hk hn)⟩
theorem Gb.but {b:Nat} {w w':World} (h:Gb b w w'):But b w w':=⟨h.size,fun k hk hl=>h.block k hl (by simpa using hk)⟩
theorem Gb.keep {b:Nat} {w w':World} (h:Gb b w w'):Keep (fun g=>g≠b) w w':=Keep.of_but h.but
theorem Gb.below {b:Nat} {w w' w2:World} (h:Below w.heap.size w w') (k:Gb b w' w2) (hb:w.heap.size≤b):Below w.heap.size w w2:=⟨k.os.trans h.os,k.tape.trans h.tape,k.output.trans h.output,Nat.le_trans h.size k.size,fun q hq=>(k.block q (Nat.lt_of_lt_of_le hq h.size) (by simp; omega)).trans (h.block q hq)⟩
theorem gr_nodig {w:World} {b:Nat} {l:List Int} {d c:Nat} (h:GrIn w b l d c):NoDigAt w b:=by
 obtain ⟨ao,cv,h0,-⟩:=h
 intro i x e
 rw[ZI h0] at e
 match i,e with
 | 0,e=>simp at e
 | 1,e=>simp at e
 | 2,e=>simp at e
 | _+3,e=>simp at e
def NoByteAt (w:World) (b:Nat):Prop:=∀i x,w.cell? ⟨b,i,none⟩≠some (.int .u8 x)
theorem nobyte4 {w:World} {b:Nat} {s1:Bool} {a1:Option Addr} {c1 l1:Nat} {s2:Bool} {a2:Option Addr} {c2 l2:Nat} {t:TypeId} (h:w.heap[b]?=some (.cells #[.bool s1,.slice a1 c1 l1,.bool s2,.slice a2 c2 l2] t (0,0))):NoByteAt w b:=by
 intro i x e
 rw[ZI h] at e
 match i,e with
 | 0,e=>simp at e
 | 1,e=>simp at e
 | 2,e=>simp at e
 | 3,e=>simp at e
 | _+4,e=>simp at e
theorem GrIn.but {w w':World} {b b2:Nat} {l:List Int} {d c:Nat} (h:GrIn w b l d c) (hn:NoByteAt w b2) (hne:b≠b2) (hu:But b2 w w'):GrIn w' b l d c:=by
 obtain ⟨ao,cv,h0,h1,h2,h3⟩:=h
 refine ⟨ao,cv,(hu.block b hne (ZL h0)).trans h0,h1,h2,fun hl=>?_⟩
 obtain ⟨g,o,e,aa,hc⟩:=h3 hl
 have hg:=Nat.lt_trans aa (ZL h0)
 have hg2:g≠b2:=by
  rintro rfl
  exact hn _ _ (hc 0 hl).1
 exact ⟨g,o,e,aa,fun j hj=>⟨cell_keep (hu.block g hg2 hg) (hc j hj).1,(hc j hj).2⟩⟩
theorem gr_set0 {w:World} {b:Nat} {x y z:Value} {t:TypeId} (h:w.heap[b]?=some (.cells #[x,y,z] t (0,0))) (u:Value):(w.setCell ⟨b,0,none⟩ u).heap[b]?=some (.cells #[u,y,z] t (0,0)):=by simp[World.setCell,Array.getElem?_modify,h]
theorem gr_set2 {w:World} {b:Nat} {x y z:Value} {t:TypeId} (h:w.heap[b]?=some (.cells #[x,y,z] t (0,0))) (u:Value):(w.setCell ⟨b,2,none⟩ u).heap[b]?=some (.cells #[x,y,u] t (0,0)):=by simp[World.setCell,Array.getElem?_modify,h]
theorem gr_tail {w:World} {b:Nat} {x:Int} {t:List Int} {g o cv d c:Nat} (h:w.heap[b]?=some (.cells #[.slice (some ⟨g,o,none⟩) (x::t).length cv,.int .i64 (d:Int),.int .i64 (c:Int)] 53 (0,0))∧(x::t).length≤cv∧cv≤maxLen∧g<b∧∀j,j<(x::t).length→w.cell? ⟨g,o+j,none⟩=some (.int .u8 ((x::t).getD j 0))∧0≤(x::t).getD j 0∧(x::t).getD j 0≤255) {o2:Nat} (ho:0<t.length→o2=o+1) :
  GrIn (w.setCell ⟨b,0,none⟩ (.slice (some ⟨g,o2,none⟩) t.length (cv-1))) b t d c:=by
 obtain ⟨h0,h1,h2,h3,h5⟩:=h
 simp only[List.length_cons] at h1
 refine ⟨_,_,gr_set0 h0 _,by omega,by omega,fun hl=>⟨g,o2,rfl,h3,fun j hj=>?_⟩⟩
 have k:=h5 (j+1) (by simp; omega)
 rw[ho hl]
 rw[show o+1+j=o+(j+1) by omega]
 exact ⟨cell_keep (Below.heap_setCell _ _ _ _ (Nat.ne_of_lt h3)) k.1,k.2⟩
theorem pnext_any {w:World} {b:Nat} {l:List Int} {d c:Nat} (h:GrIn w b l d c):Calls Tryz.prog 69 #[.pointer (some ⟨b,0,none⟩)] w fun e w'=>e=.returned (.int .i64 (headB l:Int))∧GrIn w' b l.tail d c∧Gb b w w':=by
 cases l with
 | nil=>
  have HH:=ZH h
  obtain ⟨ao,cv,h0,h1,h2,-⟩:=h
  have y0:=ZI h0 0
  simp only[List.length_nil] at y0
  simp at y0
  clear h0
  go_enter Tryz.func69,Tryz.ntmps69
  go_wp2_with fail
  go_ret
  exact ⟨rfl,HH.out,Gb.refl _ _⟩
 | cons x t=>
  obtain ⟨ao,cv,h0,h1,h2,h3⟩:=h
  obtain ⟨g,o,rfl,aa,hc⟩:=h3 (by simp)
  have hx:=hc 0 (by simp)
  simp only[List.getD_cons_zero,Nat.add_zero] at hx
  obtain ⟨x0,hx1,hx2⟩:=hx
  have y0:=ZI h0 0
  have f0:=ZF h0 0
  simp at y0
  have hu:IntKind.i64.wrap x=x:=IntWalk.i64_in _ (by omega)
  have hn0:((↑t.length+1:Int)==0)=false:=ZQ.2 (by omega)
  have hn1:(1:Int)≤(↑t.length+1:Int):=by omega
  have HC:=ZH (ZN h0 (ZN h1 (ZN h2 (ZN aa hc))))
  simp only[List.length_cons] at h1
  have hcv:t.length+1≤cv∧cv≤9223372036854775807:=⟨h1,h2⟩
  clear h0 h1 h2 h3 hc aa
  by_cases hc1:cv=1
  ·have e1:(cv=1)=True:=eq_true hc1
   have HCV:=ZH (show t.length=0 by omega)
   clear hc1
   go_enter Tryz.func69,Tryz.ntmps69
   go_wp2_with fail
   go_ret
   exact ⟨by rw[show ((headB (x::t):Nat):Int)=x from by show ((x.toNat:Nat):Int)=x; omega]; rfl,gr_tail HC.out (fun h=>by first | rfl | (exact absurd HCV.out (by omega))),(Gb.refl b w).set 0 _⟩
  ·have e1:(cv=1)=False:=eq_false hc1
   clear hc1
   go_enter Tryz.func69,Tryz.ntmps69
   go_wp2_with fail
   go_ret
   exact ⟨by rw[show ((headB (x::t):Nat):Int)=x from by show ((x.toNat:Nat):Int)=x; omega]; rfl,gr_tail HC.out (fun h=>by first | rfl | (have:=e1; omega)),(Gb.refl b w).set 0 _⟩
theorem psmall_any {w:World} {b:Nat} {l:List Int} {d c:Nat} (h:GrIn w b l d c):Calls Tryz.prog 68 #[.pointer (some ⟨b,0,none⟩)] w fun e w'=>∃v,e=.returned v∧RtIn w' v (smallQ l) 4∧GrIn w' b l.tail d c∧Gb b w w':=by
 obtain ⟨wa,b2,ay,ax,ao,ka⟩:=new_box w #[.bool false,.slice none 0 0,.bool false,.slice none 0 0] 43
 have HH:=ZH (h.below ao)
 have aB:=ZH h.lt
 have ar:=ZH ao
 have HKA:=ZH ka
 have HW:=ZH (ZN ay ax)
 clear h ao ka ay ax
 go_enter Tryz.func68,Tryz.ntmps68
 go_upto_region 1 with fail
 rw[←HW.out.1,←HW.out.2]
 go_wp2_with fail
 refine (pnext_any HH.out).mono ?_
 rintro e w2 ⟨rfl,aE,af⟩
 obtain ⟨z,hz⟩:∃z:Int,z=(headB l:Int):=⟨_,rfl⟩
 rw[←hz]
 have ah:=ZH (ZN aE af)
 obtain ⟨y,hy⟩:∃y:Int,y=((headB l%13:Nat):Int)-6:=⟨_,rfl⟩
 have HY:=ZH (ZN hy (show -6≤y∧y≤6 by omega))
 have az:(0:Int)≤z:=by omega
 have hz1:z.tmod 13=y+6:=by rw[Int.tmod_eq_emod_of_nonneg az]; omega
 have hz2:wrap64 y=y:=IntWalk.wrap64_in _ (by omega)
 clear aE af hz hy az
 go_wp2_with fail
 refine (rFrom_any (w:=w2) (n:=y) (by have:=HY.out; omega) (by have:=HY.out; omega)).mono ?_
 rintro e w3 ⟨va,rfl,aC,aA⟩
 have au:=ZH (rt_int aC)
 have an:=ZH aA
 clear aC aA hz1 hz2
 go_wp2_with fail
 refine (rFrom_any (w:=w3) (n:=2) (by omega) (by omega)).mono ?_
 rintro e w4 ⟨vb,rfl,aD,ap⟩
 have av:=ZH (rt_int aD)
 have ag:=ZH (au.out.below ap)
 have ai:=ZH (an.out.trans (ap.mono an.out.size))
 clear aD ap au an
 go_wp2_with fail
 refine (ratDiv_any ag.out av.out (by omega) (by omega) (by omega)).mono ?_
 rintro e w5 ⟨vq,rfl,am,ak⟩
 obtain ⟨s1,a1,c1,l1,s2,a2,c2,l2,rfl⟩:=rt_shape am
 rw[show divErr ((2:Int):Rat)=0 from by decide]
 obtain ⟨w6,b6,aq,aw,al,k6⟩:=new_box w5 #[.bool s1,.slice a1 c1 l1,.bool s2,.slice a2 c2 l2] 43
 have ae:=(ai.out.trans (ak.mono ai.out.size)).trans (al.mono (Nat.le_trans ai.out.size ak.size))
 have HQ:=ZH (show RtIn w6 _ (smallQ l) 4 from by
  have h:=am.below al
  rw[HY.out.1] at h
  exact h)
 have ad:=ZH ae
 have aj:=ZH (ZN aq aw)
 have k2:=(ah.out.2.block b2 (by rw[HW.out.1]; simp[HW.out.2]) (by have:=aB.out; have:=HW.out.2; simp; omega)).trans HKA.out
 have k2:=(ae.block b2 (ZL k2)).trans k2
 have aa:=ZH (ZN k2 k6)
 clear am ak aq aw al k6 ae k2 ag av ai
 go_upto_region 2 with fail
 rw[←aj.out.1,←aj.out.2]
 clear aj
 obtain ⟨z0,z1,z2,z3⟩:=cells4 (ZR _ w6) aa.out.2
 obtain ⟨y0,y1,y2,y3⟩:=cells4 (ZR _ w6) aa.out.1
 have f0:=ZF aa.out.1 0
 have f1:=ZF aa.out.1 1
 have f2:=ZF aa.out.1 2
 have f3:=ZF aa.out.1 3
 have hu:=But.set4 (b:=b2) w6 (.bool s1) (.slice a1 c1 l1) (.bool s2) (.slice a2 c2 l2)
 have HR:=ZH (HQ.out.but (nodig4 aa.out.1) hu)
 have HGR:=ZH ((ah.out.1.below ad.out).but (nobyte4 aa.out.1) (by have:=aB.out; have:=HW.out.2; omega) hu)
 have ac:Gb b w w6:=((Gb.of ar.out).trans ah.out.2).more ad.out
 have HGB:=ZH (show Gb b w ((((w6.setCell ⟨b2,0,none⟩ (.bool s1)).setCell ⟨b2,1,none⟩ (.slice a1 c1 l1)).setCell ⟨b2,2,none⟩ (.bool s2)).setCell ⟨b2,3,none⟩ (.slice a2 c2 l2)) from ⟨ac.os,ac.tape,ac.output,Nat.le_trans ac.size hu.size,fun k hk hn=>(hu.block k (by have:=HW.out.2; omega) (Nat.lt_of_lt_of_le hk ac.size)).trans (ac.block k hk hn)⟩)
 clear hu ac ah ar ad HQ aa
 go_wp2_with fail
 exact bodyPost_ret (v:=.agg #[.bool s1,.slice a1 c1 l1,.bool s2,.slice a2 c2 l2]) (by simp[results,Tryz.results68,go_sem,y0,y1,y2,y3]) rfl ⟨_,rfl,HR.out,HGR.out,HGB.out⟩
end Go.Proofs.YtdgimcmappmjdaaGreatDoor
set_option maxRecDepth 100000
namespace Go.Proofs.YtdgimcmappmjdaaGreatDoor
open Go.RowKit Go.Num Go.Flow
open Go.FlowX (setL)
set_option maxHeartbeats 4000000

theorem RatRow.put {w:World} {g n:Nat} {rs:List Rat} {K:Nat} {r:Rat} {s1:Bool} {a1:Option Addr} {c1 l1:Nat} {s2:Bool} {a2:Option Addr} {c2 l2:Nat} (h:RatRow w g n rs K) (hn:rs.length=n) {i:Nat} (hi:i<n) (hr:RtIn w (.agg #[.bool s1,.slice a1 c1 l1,.bool s2,.slice a2 c2 l2]) r K) :
  RatRow ((((w.setCell ⟨g,i*4,none⟩ (.bool s1)).setCell ⟨g,i*4+1,none⟩ (.slice a1 c1 l1)).setCell ⟨g,i*4+2,none⟩ (.bool s2)).setCell ⟨g,i*4+3,none⟩ (.slice a2 c2 l2)) g n (rs.set i r) K:=by
 obtain ⟨cs,h1,h2,h3,h4⟩:=h
 have k1:=heap_setCell_same w g (i*4) cs _ (.bool s1) h1
 have k2:=heap_setCell_same _ g (i*4+1) _ _ (.slice a1 c1 l1) k1
 have k3:=heap_setCell_same _ g (i*4+2) _ _ (.bool s2) k2
 have k4:=heap_setCell_same _ g (i*4+3) _ _ (.slice a2 c2 l2) k3
 have d1:=nodig_set h3 (i*4) (v:=.bool s1) (fun _ h=>by cases h)
 have d2:=nodig_set d1 (i*4+1) (v:=.slice a1 c1 l1) (fun _ h=>by cases h)
 have d3:=nodig_set d2 (i*4+2) (v:=.bool s2) (fun _ h=>by cases h)
 have d4:=nodig_set d3 (i*4+3) (v:=.slice a2 c2 l2) (fun _ h=>by cases h)
 have kp:∀{v:Value} {q:Rat},RtIn w v q K→RtIn ((((w.setCell ⟨g,i*4,none⟩ (.bool s1)).setCell ⟨g,i*4+1,none⟩ (.slice a1 c1 l1)).setCell ⟨g,i*4+2,none⟩ (.bool s2)).setCell ⟨g,i*4+3,none⟩ (.slice a2 c2 l2)) v q K:=
  fun hq=>(((hq.keep h1 h3 _ _).keep k1 d1 _ _).keep k2 d2 _ _).keep k3 d3 _ _
 refine ⟨_,k4,by simp only[Array.size_setIfInBounds]; exact h2,d4,fun j hj=>?_⟩
 rw[List.length_set] at hj
 simp only[Array.getElem?_setIfInBounds,Array.size_setIfInBounds,h2]
 by_cases hlt:j=i
 ·subst hlt
  refine ⟨.bool s1,.slice a1 c1 l1,.bool s2,.slice a2 c2 l2,?_,?_,?_,?_,?_⟩
  ·rw[if_neg (by omega),if_neg (by omega),if_neg (by omega),if_pos rfl,if_pos (by omega)]
  ·rw[if_neg (by omega),if_neg (by omega),if_pos rfl,if_pos (by omega)]
  ·rw[if_neg (by omega),if_pos rfl,if_pos (by omega)]
  ·rw[if_pos rfl,if_pos (by omega)]
  ·rw[show (rs.set j r).getD j 0=r by rw[List.getD_eq_getElem?_getD,List.getElem?_set_self hj]; rfl]
   exact kp hr
 ·obtain ⟨c0,c1',c2',c3,e0,e1,e2,e3,hq⟩:=h4 j hj
  refine ⟨c0,c1',c2',c3,?_,?_,?_,?_,?_⟩
  ·rw[if_neg (by omega),if_neg (by omega),if_neg (by omega),if_neg (by omega)]; exact e0
  ·rw[if_neg (by omega),if_neg (by omega),if_neg (by omega),if_neg (by omega)]; exact e1
  ·rw[if_neg (by omega),if_neg (by omega),if_neg (by omega),if_neg (by omega)]; exact e2
  ·rw[if_neg (by omega),if_neg (by omega),if_neg (by omega),if_neg (by omega)]; exact e3
  ·rw[show (rs.set i r).getD j 0=rs.getD j 0 by rw[List.getD_eq_getElem?_getD,List.getD_eq_getElem?_getD,List.getElem?_set_ne (Ne.symm hlt)]]
   exact kp hq
theorem made_at (z:Array Value) (n i:Nat) (h:i<n) (u:Value) (hz:z[i%z.size]! = u):(madeCells z n)[i]?=some u:=by
 simp[madeCells,h,hz]
theorem ratrow_zeros (w:World) (n K:Nat):RatRow (w.alloc (.cells (madeCells #[.bool false,.slice none 0 0,.bool false,.slice none 0 0] (n*4)) 43)) w.heap.size n (List.replicate n 0) K:=by
 obtain ⟨cs,h1,h2,h3,-⟩:=ratrow_made w n K
 refine ⟨cs,h1,h2,h3,fun j hj=>?_⟩
 rw[List.length_replicate] at hj
 have e:cs=madeCells #[.bool false,.slice none 0 0,.bool false,.slice none 0 0] (n*4):=by
  have h:=ZW w (.cells (madeCells #[.bool false,.slice none 0 0,.bool false,.slice none 0 0] (n*4)) 43)
  have:=h1.symm.trans h
  simpa using this
 subst e
 refine ⟨.bool false,.slice none 0 0,.bool false,.slice none 0 0,made_at _ _ _ (by omega) _ ?_,made_at _ _ _ (by omega) _ ?_,made_at _ _ _ (by omega) _ ?_,made_at _ _ _ (by omega) _ ?_,?_⟩
 ·show (#[.bool false,.slice none 0 0,.bool false,.slice none 0 0]:Array Value)[j*4%4]! = _
  rw[show j*4%4=0 by omega]; rfl
 ·show (#[.bool false,.slice none 0 0,.bool false,.slice none 0 0]:Array Value)[(j*4+1)%4]! = _
  rw[show (j*4+1)%4=1 by omega]; rfl
 ·show (#[.bool false,.slice none 0 0,.bool false,.slice none 0 0]:Array Value)[(j*4+2)%4]! = _
  rw[show (j*4+2)%4=2 by omega]; rfl
 ·show (#[.bool false,.slice none 0 0,.bool false,.slice none 0 0]:Array Value)[(j*4+3)%4]! = _
  rw[show (j*4+3)%4=3 by omega]; rfl
 ·rw[show (List.replicate n (0:Rat)).getD j 0=0 by rw[List.getD_eq_getElem?_getD,List.getElem?_replicate]; split<;>rfl]
  exact zero_rt _ _
theorem RatRow.at4 {w:World} {g n:Nat} {rs:List Rat} {K:Nat} (h:RatRow w g n rs K) {j:Nat} (hj:j<rs.length):∃s1 a1 c1 l1 s2 a2 c2 l2,w.cell? ⟨g,j*4,none⟩=some (.bool s1)∧w.cell? ⟨g,j*4+1,none⟩=some (.slice a1 c1 l1)∧w.cell? ⟨g,j*4+2,none⟩=some (.bool s2)∧w.cell? ⟨g,j*4+3,none⟩=some (.slice a2 c2 l2)∧RtIn w (.agg #[.bool s1,.slice a1 c1 l1,.bool s2,.slice a2 c2 l2]) (rs.getD j 0) K:=by
 obtain ⟨cs,h1,h2,h3,h4⟩:=h
 obtain ⟨c0,c1,c2,c3,e0,e1,e2,e3,hr⟩:=h4 j hj
 obtain ⟨s1,a1,d1,l1,s2,a2,d2,l2,e⟩:=rt_shape hr
 simp only[Value.agg.injEq] at e
 have e:=congrArg Array.toList e
 simp only[List.cons.injEq,and_true] at e
 obtain ⟨rfl,rfl,rfl,rfl⟩:=e
 exact ⟨s1,a1,d1,l1,s2,a2,d2,l2,by rw[ZI h1]; exact e0,by rw[ZI h1]; exact e1,by rw[ZI h1]; exact e2,by rw[ZI h1]; exact e3,hr⟩
theorem RatRow.nobyte {w:World} {g n:Nat} {rs:List Rat} {K:Nat} (h:RatRow w g n rs K) (hn:rs.length=n):NoByteAt w g:=by
 intro i x e
 have hi:i<n*4:=by
  obtain ⟨cs,h1,h2,-⟩:=h
  rw[ZI h1] at e
  rcases Nat.lt_or_ge i (n*4) with h | h
  ·exact h
  ·rw[Array.getElem?_eq_none (by omega)] at e; cases e
 obtain ⟨s1,a1,c1,l1,s2,a2,c2,l2,e0,e1,e2,e3,-⟩:=h.at4 (j:=i/4) (by omega)
 rcases (show i=i/4*4∨i=i/4*4+1∨i=i/4*4+2∨i=i/4*4+3 by omega) with h | h | h | h
 ·rw[←h,e] at e0; cases e0
 ·rw[←h,e] at e1; cases e1
 ·rw[←h,e] at e2; cases e2
 ·rw[←h,e] at e3; cases e3
theorem RatRow.nodig {w:World} {g n:Nat} {rs:List Rat} {K:Nat} (h:RatRow w g n rs K):NoDigAt w g:=by
 obtain ⟨cs,h1,h2,h3,-⟩:=h
 intro i x e
 rw[ZI h1] at e
 exact h3 _ _ e x rfl
theorem RatRow.lt {w:World} {g n:Nat} {rs:List Rat} {K:Nat} (h:RatRow w g n rs K):g<w.heap.size:=by
 obtain ⟨cs,h1,-⟩:=h
 exact ZL h1
theorem RatRow.but {w w':World} {g n b:Nat} {rs:List Rat} {K:Nat} (h:RatRow w g n rs K) (hg:g≠b) (hn:NoDigAt w b) (hu:But b w w'):RatRow w' g n rs K:=by
 obtain ⟨cs,h1,h2,h3,h4⟩:=h
 refine ⟨cs,(hu.block g hg (ZL h1)).trans h1,h2,h3,fun j hj=>?_⟩
 obtain ⟨c0,c1,c2,c3,e0,e1,e2,e3,hr⟩:=h4 j hj
 exact ⟨c0,c1,c2,c3,e0,e1,e2,e3,hr.but hn hu⟩
theorem RatRow.reads {w:World} {g n:Nat} {rs:List Rat} {K:Nat} (h:RatRow w g n rs K) (hn:rs.length=n) (hm:n≤maxLen):RatsAt w (some ⟨g,0,none⟩) n rs K:=by
 refine ⟨by omega,hm,fun _=>⟨g,0,rfl,h.lt,fun j hj=>?_⟩⟩
 obtain ⟨s1,a1,c1,l1,s2,a2,c2,l2,e0,e1,e2,e3,hr⟩:=h.at4 hj
 rw[Nat.zero_add]
 exact ⟨s1,a1,c1,l1,s2,a2,c2,l2,e0,e1,e2,e3,hr⟩
theorem Glob.gr {w w':World} (h:Glob w) {b:Nat} {l:List Int} {d c:Nat} (hk:GrIn w b l d c) (hg:Gb b w w'):Glob w':=by
 obtain ⟨ao,cv,hk,-⟩:=hk
 have ht:=h.tab
 refine ⟨?_,?_⟩
 ·unfold Lib.TabIs World.var? at *
  cases hn:Tryz.prog.globalNamed "internal/strconv.uint64pow10" with
  | none=>rw[hn] at ht; cases ht
  | some g=>
   rw[hn] at ht
   simp only[Option.bind_some] at ht⊢
   have hi:g<w.heap.size:=by
    rcases Nat.lt_or_ge g w.heap.size with h | h
    ·exact h
    ·rw[Array.getElem?_eq_none h] at ht; cases ht
   have aa:g≠b:=by
    rintro rfl
    rw[hk] at ht
    simp only[Option.some.injEq] at ht
    have h0:=congrArg (·[0]?) ht
    simp at h0
    cases hz:Lib.pow10Tab[0]? with
    | none=>rw[hz] at h0; simp at h0
    | some z=>rw[hz] at h0; simp at h0
   rw[hg.block g hi (by simpa using aa)]
   exact ht
 ·obtain ⟨m,hm⟩:=h.maxl
  have aa:0≠b:=by
   rintro rfl
   rw[ZI hk] at hm
   simp at hm
  refine ⟨m,cell_keep (hg.block _ ?_ (by simpa using aa)) hm⟩
  unfold World.cell? at hm
  rcases Nat.lt_or_ge 0 w.heap.size with h1 | h1
  ·exact h1
  ·rw[Array.getElem?_eq_none h1] at hm
   cases hm
structure TwoGr (b d c p q:Nat) (l:List Int) (L:Nat→Bool) (w:World):Prop where
 ord:L q=true→L p=true
 s0:L p=false→GrIn w b l d c
 s1:L p=true→L q=false→GrIn w b l.tail d c
 s2:L q=true→GrIn w b l.tail.tail d c
section
variable {b d c p q:Nat} {l:List Int} {L L':Nat→Bool} {w w':World}
theorem TwoGr.init (h:GrIn w b l d c):TwoGr b d c p q l (fun _=>false) w:=⟨fun e=>by simp at e,fun _=>h,fun e=>by simp at e,fun e=>by simp at e⟩
theorem TwoGr.below (h:TwoGr b d c p q l L w) (hp:L' p=L p) (hq:L' q=L q) (hb:Below w.heap.size w w'):TwoGr b d c p q l L' w':=by
 refine ⟨fun e=>?_,fun e=>?_,fun e f=>?_,fun e=>?_⟩
 ·rw[hp]; rw[hq] at e; exact h.ord e
 ·rw[hp] at e; exact (h.s0 e).below hb
 ·rw[hp] at e; rw[hq] at f; exact (h.s1 e f).below hb
 ·rw[hq] at e; exact (h.s2 e).below hb
theorem TwoGr.make1 (h:TwoGr b d c p q l L w) (hpq:q≠p) (hL:L p=false) (hg:GrIn w' b l.tail d c):TwoGr b d c p q l (setL L p) w':=by
 have ep:setL L p p=true:=by unfold setL; simp
 have eq:setL L p q=false:=by
  unfold setL
  cases hq:L q with
  | false=>simp[hpq]
  | true=>rw[h.ord hq] at hL; cases hL
 exact ⟨fun _=>ep,fun e=>(by rw[ep] at e; cases e),fun _ _=>hg,fun e=>(by rw[eq] at e; cases e)⟩
theorem TwoGr.make2 (h:TwoGr b d c p q l L w) (hpq:p≠q) (hp:L p=true) (hg:GrIn w' b l.tail.tail d c):TwoGr b d c p q l (setL L q) w':=by
 have eq:setL L q q=true:=by unfold setL; simp
 have ep:setL L q p=true:=by unfold setL; simp[hp]
 have _:=h
 have _:=hpq
 exact ⟨fun _=>ep,fun e=>(by rw[ep] at e; cases e),fun _ e=>(by rw[eq] at e; cases e),fun _=>hg⟩
theorem TwoGr.any (h:TwoGr b d c p q l L w):∃l',GrIn w b l' d c:=by
 cases hp:L p with
 | false=>exact ⟨_,h.s0 hp⟩
 | true=>
  cases hq:L q with
  | false=>exact ⟨_,h.s1 hp hq⟩
  | true=>exact ⟨_,h.s2 hq⟩
end
structure OneGr (b d p:Nat) (l:List Int) (c:Nat) (l':List Int) (c':Nat) (L:Nat→Bool) (w:World):Prop where
 s0:L p=false→GrIn w b l d c
 s1:L p=true→GrIn w b l' d c'
section
variable {b d p c c':Nat} {l l':List Int} {L L':Nat→Bool} {w w':World}
theorem OneGr.init (h:GrIn w b l d c):OneGr b d p l c l' c' (fun _=>false) w:=⟨fun _=>h,fun e=>by simp at e⟩
theorem OneGr.below (h:OneGr b d p l c l' c' L w) (hp:L' p=L p) (hb:Below w.heap.size w w'):OneGr b d p l c l' c' L' w':=by
 refine ⟨fun e=>?_,fun e=>?_⟩
 ·rw[hp] at e; exact (h.s0 e).below hb
 ·rw[hp] at e; exact (h.s1 e).below hb
theorem OneGr.make (hg:GrIn w' b l' d c'):OneGr b d p l c l' c' (setL L p) w':=by
 have ep:setL L p p=true:=by unfold setL; simp
 exact ⟨fun e=>(by rw[ep] at e; cases e),fun _=>hg⟩
end
def GrS (b:Nat) (w w':World):Prop:=Gb b w w'∧(b<w.heap.size→NoDigAt w b→NoDigAt w' b)
theorem GrS.of {b:Nat} {w w':World} (h:Below w.heap.size w w'):GrS b w w':=⟨Gb.of h,fun hl hn i x e=>hn i x (by
 have:=World.cell?_of_block (a:=⟨b,i,none⟩) (h.block b hl)
 rw[←this]
 exact e)⟩
theorem GrS.gr {b:Nat} {w w':World} {l:List Int} {d c:Nat} (h:Gb b w w') (hg:GrIn w' b l d c):GrS b w w':=⟨h,fun _ _=>gr_nodig hg⟩
theorem RtIn.grs {b:Nat} {w w':World} {v:Value} {r:Rat} {k:Nat} (h:RtIn w v r k∧b<w.heap.size∧NoDigAt w b) (hs:GrS b w w'):RtIn w' v r k∧b<w'.heap.size∧NoDigAt w' b:=
 ⟨h.1.but h.2.2 hs.1.but,Nat.lt_of_lt_of_le h.2.1 hs.1.size,hs.2 h.2.1 h.2.2⟩
open List renaming setIfInBounds_toArray → zLa, set_cons_zero → zLb, set_cons_succ → zLc
open FlowR renaming putSel → zFp
open Act renaming put → zAp
open Nat renaming zero_add → zNz
open Flow.Steps renaming cons → zSc, nil → zSn
open FlowR.Step renaming of → zSo
set_option maxHeartbeats 8000000
theorem pform_any {w:World} (hg:Glob w) {v:Value} {q0:Rat} {k0:Nat} (hq0:RtIn w v q0 k0) (hk900:k0≤900000) {ar:Option Addr} {cr:Nat} {rs:List Rat} {K:Nat} (hr:RatsAt w ar cr rs K) (hn:rs.length≤100000) (hK:K≤900000) :
  Calls Tryz.prog 70 #[v,.slice ar rs.length cr] w fun e w'=>∃v,e=.returned v∧FormIn w' w.heap.size v (numText q0) (sumTerms (tmap rs) rs.length)∧Below w.heap.size w w':=by
 obtain ⟨n,ax⟩:∃n,n=rs.length:=⟨_,rfl⟩
 obtain ⟨s01,a01,c01,l01,s02,a02,c02,l02,rfl⟩:=rt_shape hq0
 obtain ⟨wa,br,bc,aG,aQ,aT,aj,k1,k2⟩:=new_two w #[.bool s01,.slice a01 c01 l01,.bool s02,.slice a02 c02 l02] #[.string ⟨#[]⟩,.slice none 0 0] 43 57
 have hcap:n≤cr∧cr≤9223372036854775807:=by rw[ax]; exact ⟨hr.1,hr.2.1⟩
 have ao:=ZH (show w.heap.size≤bc by omega)
 have aC:=ZH aj
 have ay:=ZH k2
 have HR:=ZH (hr.below aj).2.2
 have HG:=ZH (hg.below aj)
 have HQ0:=ZH (hq0.below aj)
 have al:=ZH (ZN ax (ZN hn hK))
 have HNM:=ZH (Number_any (hq0.below aj) hk900 (hg.below aj))
 have HW:=ZH (ZN aG (ZN aQ aT))
 have r0:=ZI k1 0
 have r1:=ZI k1 1
 have r2:=ZI k1 2
 have r3:=ZI k1 3
 simp at r0 r1 r2 r3
 rw[←ax]
 clear aj aG aQ aT k1 k2 hr hg hq0 hn ax
 go_enter Tryz.func70,Tryz.ntmps70
 go_upto_region 1 with fail
 rw[←HW.out.1,←HW.out.2.2,←HW.out.2.1]
 clear HW
 go_wp2_with fail
 refine HNM.out.mono ?_
 rintro e w2 ⟨rfl,aN⟩
 have aE:=ZH aN
 clear aN r0 r1 r2 r3
 go_upto_region 2 with fail
 obtain ⟨S,hS⟩:∃S:ByteArray,S=⟨(numText q0).toArray⟩:=⟨_,rfl⟩
 rw[←hS]
 obtain ⟨w3,au⟩:∃x,x=w2.alloc (.cells #[.string S,.slice none 0 0] 57):=⟨_,rfl⟩
 obtain ⟨bf,ap⟩:∃b,b=w2.heap.size:=⟨_,rfl⟩
 rw[←au,←ap]
 have aV:Below w2.heap.size w2 w3:=by rw[au]; exact (ZR _ w2).alloc (Nat.le_refl _) _
 have HGF:=ZH (show wa.heap.size≤bf by rw[ap]; exact aE.out.size)
 have kf:w3.heap[bf]?=some (.cells #[.string S,.slice none 0 0] 57 (0,0)):=by rw[au,ap]; exact ZW w2 _
 have HB3:=ZH (aE.out.trans (aV.mono aE.out.size))
 have HKF:=ZH kf
 have HS:=ZH hS
 clear au aV kf hS ap
 go_wp2_with fail
 go_loopg [6] n (fun gkk x wr=>∃(k:Nat) (tv:Value),k+gkk=n∧x=.int .i64 k∧Hid (wr.heap[bf]?=some (.cells #[.string S,tv] 57 (0,0))∧TermRow wr wa.heap.size tv (sumTerms (tmap rs) k))∧Hid (Below wa.heap.size wa wr))
 case atStart=>exact ⟨0,_,Nat.zero_add _,rfl,ZH ⟨HKF.out,World.ownsRow_nil _ _ _ _⟩,HB3⟩
 case round=>
  obtain ⟨k,tv,hk,rfl,ai,af⟩:=hrel
  by_cases hlt:k<n
  ·have e1:((k:Int)<(n:Int))=True:=eq_true (by omega)
   have hk0:(0:Int)≤(k:Int):=by omega
   have hk1:(k:Int)<(n:Int):=by omega
   obtain ⟨rb,ro,rfl,-,aJ⟩:=HR.out (by have:=al.out.1; omega)
   obtain ⟨q,hq⟩:∃q,q=rs.getD k 0:=⟨_,rfl⟩
   have hy:=aJ k (by have:=al.out.1; omega)
   rw[←hq] at hy
   obtain ⟨s1,a1,c1,l1,s2,a2,c2,l2,u0,u1,u2,u3,aF⟩:=hy
   have HY:=ZH (ZN u0 (ZN u1 (ZN u2 (ZN u3 aF))))
   have z0:=ZJ af.out u0
   have z1:=ZJ af.out u1
   have z2:=ZJ af.out u2
   have z3:=ZJ af.out u3
   have aI:=ZH (show sumTerms (tmap rs) (k+1)=sumTerms (tmap rs) k++termOf q k by rw[sumTerms_succ,tmap_tot,←hq])
   have ag:=ZH (ZN hlt hk)
   have aP:=ZH (ratSign_any (aF.below af.out))
   have aD:=ZH af.out
   have ae:=ZH ai.out
   clear aJ hq u0 u1 u2 u3 aF hlt hk af ai
   go_wp2_with fail
   refine aP.out.mono ?_
   rintro e wc ⟨rfl,aq⟩
   have az:=ZH (ae.out.2.below aq)
   have ak:=ZH ((aq.block bf (ZL ae.out.1)).trans ae.out.1)
   have ad:=ZH (aD.out.trans (aq.mono aD.out.size))
   clear aq z0 z1 z2 z3 aP ae aD
   by_cases hz:q.num=0
   ·have e2:(cmpI q.num 0 != 0)=false:=by rw[cmp_nez,hz]; rfl
    have HTE:=ZH (show sumTerms (tmap rs) (k+1)=sumTerms (tmap rs) k by
     rw[aI.out]
     unfold termOf
     rw[if_pos hz,List.append_nil])
    clear hz
    go_wp2_with fail
    go_roundg (n-(k+1))
    case measure=>have:=ag.out; omega
    case rel=>exact ⟨k+1,tv,by have:=ag.out; omega,by first | (congr 1; done) | (congr 1; exact IntWalk.wrap64_in ((k:Int)+1) (by have h1:=ag.out; have h2:=al.out; omega)),ZH ⟨ak.out,by rw[HTE.out]; exact az.out⟩,ad⟩
   ·have e2:(cmpI q.num 0 != 0)=true:=by rw[cmp_nez]; exact ZT hz
    obtain ⟨ta,tn,tc,rfl⟩:=az.out.shape
    obtain ⟨NT,aU⟩:∃S:ByteArray,S=⟨(numText q).toArray⟩:=⟨_,rfl⟩
    have aR:=ZH aU
    have HTS:=ZH (show sumTerms (tmap rs) (k+1)=sumTerms (tmap rs) k++[(k,numText q)] by
     rw[aI.out]
     unfold termOf
     rw[if_neg hz])
    obtain ⟨i0,hi,aO,aH,aW⟩:=info_parts infoTerm
    have HI:=ZH (ZN hi (ZN aO (ZN aH aW)))
    have aL:=ZH (terms_len (tmap rs) k)
    have HOB:=ZH (az.out.off ak.out (by decide))
    have ah:=ZH (ZR wc.heap.size wc)
    clear hi aO aH aW aU hz
    go_upto_region 6 with fail
    refine FlowR.wp_region_sel (fun a b=>Below a.heap.size a b) (fun a=>ZR _ a) (fun _ _ _ h k=>h.trans (k.mono h.size)) [0,1,2,3,4,5,6,7,8,9] [false,false,false,false,false,false,false,false,false,false,false,false,false] [true,true,true,true,true,true,true,true,true,true,false,false,false] (fun i9 v w'=>match i9 with
     | 0=>v=.pointer (some ⟨bf,1,none⟩)
     | 1=>v=.slice ta tn tc
     | 2=>v=.int .i64 (k:Int)
     | 3=>v=.slice (some ⟨rb,ro,none⟩) n cr
     | 4=>v=.int .i64 (k:Int)
     | 5=>v=.pointer (some ⟨rb,ro+k*4,none⟩)
     | 6=>v=.agg #[.bool s1,.slice a1 c1 l1,.bool s2,.slice a2 c2 l2]
     | 7=>v=.string NT
     | 8=>v=.agg #[.int .i64 (k:Int),.string NT]
     | _=>∃b,v=.slice (some ⟨b,0,none⟩) 1 1∧w'.heap[b]?=some (.cells #[.int .i64 (k:Int),.string NT] 118 (0,0))∧wc.heap.size≤b) rfl rfl (by kernel_rfl) (by kernel_rfl) (by kernel_rfl) (by kernel_rfl) ?st ?_ ?_
    case st=>
     intro i9 v u1 u2 h hb
     match i9 with
     | 0 | 1 | 2 | 3 | 4 | 5 | 6 | 7 | 8=>exact h
     | 9 | _+10=>exact by obtain ⟨b,e,hk,hl⟩:=(show ∃b,v=.slice (some ⟨b,0,none⟩) 1 1∧u1.heap[b]?=some (.cells #[.int .i64 (k:Int),.string NT] 118 (0,0))∧wc.heap.size≤b from h); exact ⟨b,e,(hb.block b (ZL hk)).trans hk,hl⟩
    refine zSc (zSo rfl ?s0) (zSc (zSo rfl ?s1) (zSc (zSo rfl ?s2) (zSc (zSo rfl ?s3) (zSc (zSo rfl ?s4) (zSc (zSo rfl ?s5) (zSc (zSo rfl ?s6) (zSc (zSo rfl ?s7) (zSc (zSo rfl ?s8) (zSc (zSo rfl ?s9) zSn)))))))))
    case s0 | s2 | s3 | s4=>
     intro xs w' hb hT K9 aa
     clear hT
     simp only[zFp,zAp,zLa,zLb,zLc,Nat.reduceAdd,zNz] at aa⊢
     have hw:=Flow.hwD ah.out hb
     go_simp
     exact aa _ _ (ZR _ _) rfl
    case s1=>
     intro xs w' hb hT K9 aa
     have h0:(xs 0)=.pointer (some ⟨bf,1,none⟩):=hT 0 (by kernel_rfl)
     clear hT
     simp only[zFp,zAp,zLa,zLb,zLc,Nat.reduceAdd,zNz] at aa⊢
     have hw:=Flow.hwD ah.out hb
     have kb:=(hw.block bf (ZL ak.out)).trans ak.out
     have y0:=ZI kb 1
     clear kb
     simp at y0
     (try simp only[h0] at aa)
     go_simp
     exact aa _ _ (ZR _ _) rfl
    case s5=>
     intro xs w' hb hT K9 aa
     have h3:(xs 3)=.slice (some ⟨rb,ro,none⟩) n cr:=hT 3 (by kernel_rfl)
     have h4:(xs 4)=.int .i64 (k:Int):=hT 4 (by kernel_rfl)
     clear hT
     simp only[zFp,zAp,zLa,zLb,zLc,Nat.reduceAdd,zNz] at aa⊢
     have hw:=Flow.hwD ah.out hb
     (try simp only[h3] at aa)
     (try simp only[h4] at aa)
     go_simp
     exact aa _ _ (ZR _ _) rfl
    case s6=>
     intro xs w' hb hT K9 aa
     have h5:(xs 5)=.pointer (some ⟨rb,ro+k*4,none⟩):=hT 5 (by kernel_rfl)
     clear hT
     simp only[zFp,zAp,zLa,zLb,zLc,Nat.reduceAdd,zNz] at aa⊢
     have hw:=Flow.hwD ah.out hb
     (try simp only[h5] at aa)
     have am:=ad.out.trans (hw.mono ad.out.size)
     have y0:=ZJ am HY.out.1
     have y1:=ZJ am HY.out.2.1
     have y2:=ZJ am HY.out.2.2.1
     have y3:=ZJ am HY.out.2.2.2.1
     clear am
     go_simp
     exact aa _ _ (ZR _ _) rfl
    case s7=>
     intro xs w' hb hT K9 aa
     have h6:(xs 6)=.agg #[.bool s1,.slice a1 c1 l1,.bool s2,.slice a2 c2 l2]:=hT 6 (by kernel_rfl)
     clear hT
     simp only[zFp,zAp,zLa,zLb,zLc,Nat.reduceAdd,zNz] at aa⊢
     have hw:=Flow.hwD ah.out hb
     (try simp only[h6] at aa)
     go_simp
     go_at_call 60
     refine (Number_any (HY.out.2.2.2.2.below (ad.out.trans (hw.mono ad.out.size))) (by have:=al.out; omega) (HG.out.below (ad.out.trans (hw.mono ad.out.size)))).mono ?_
     rintro e w3 ⟨rfl,hb3⟩
     exact aa _ _ hb3 (by rw[aR.out])
    case s8=>
     intro xs w' hb hT K9 aa
     have h2:(xs 2)=.int .i64 (k:Int):=hT 2 (by kernel_rfl)
     have h7:(xs 7)=.string NT:=hT 7 (by kernel_rfl)
     clear hT
     simp only[zFp,zAp,zLa,zLb,zLc,Nat.reduceAdd,zNz] at aa⊢
     have hw:=Flow.hwD ah.out hb
     (try simp only[h2] at aa)
     (try simp only[h7] at aa)
     go_simp
     exact aa _ _ (ZR _ _) rfl
    case s9=>
     intro xs w' hb hT K9 aa
     have h8:(xs 8)=.agg #[.int .i64 (k:Int),.string NT]:=hT 8 (by kernel_rfl)
     clear hT
     simp only[zFp,zAp,zLa,zLb,zLc,Nat.reduceAdd,zNz] at aa⊢
     have hw:=Flow.hwD ah.out hb
     (try simp only[h8] at aa)
     go_simp
     exact aa _ _ ((ZR _ _).alloc (Nat.le_refl _) _) ⟨_,rfl,ZW _ _,by have h1:=(ZR wc.heap.size wc).drew.size; have h2:=hw.size; omega⟩
    intro xs w' hb hT
    have hw:=Flow.hwD ah.out hb
    have h1:(xs 1)=.slice ta tn tc:=hT 1 (by rfl)
    have h9:∃b,(xs 9)=.slice (some ⟨b,0,none⟩) 1 1∧w'.heap[b]?=some (.cells #[.int .i64 (k:Int),.string NT] 118 (0,0))∧wc.heap.size≤b:=hT 9 (by rfl)
    clear hT
    simp only[zFp,zAp,zLa,zLb,zLc,Nat.reduceAdd,zNz,FlowR.restL,FlowR.orM,Bool.false_or]
    obtain ⟨b6,e6,k6,aM⟩:=h9
    simp only[h1,e6]
    clear h1 e6 hb
    have aK:=(hw.block bf (ZL ak.out)).trans ak.out
    have TT:=ZH (az.out.below hw)
    have av:=ZH hw
    have aA:=ZH aK
    have HK6:=ZH (ZN k6 aM)
    clear hw aK k6 aM
    refine wpList_append_own _ rfl _ _ 55 rfl wa.heap.size 118 i0 _ 2 24 Tryz.underlying55 HI.out.1 HI.out.2.1 HI.out.2.2.1 HI.out.2.2.2 rfl (by decide) _ _ _ rfl TT.out ⟨b6,0,none⟩ 1 1 [.int .i64 (k:Int),.string NT] rfl rfl ?c1 ?c2 ?c3 ?c4 ?c5 ?_
    case c1=>exact World.news_of_block HK6.out.1
    case c2=>simp[Value.oneCell']
    case c3=>have:=aL.out; have:=ag.out; have:=al.out; unfold maxLen; omega
    case c4=>have:=aL.out; have:=ag.out; have:=al.out; omega
    case c5=>have h1:=ad.out.size; have h2:=av.out.size; omega
    intro v7 w7 ac aB _
    have k7:=(aB.block bf (by have h1:=ZL ak.out; have h2:=av.out.size; omega) (fun e=>HOB.out bf e.symm rfl)).trans aA.out
    have y1:=ZI k7 1
    have g1:=ZF k7 1
    simp at y1
    have aS:=(ad.out.trans (av.out.mono ad.out.size)).grown aB (by have h1:=ad.out.size; have h2:=av.out.size; omega) (fun q e=>(World.ownsRow.lt TT.out q e).1)
    have aw:TermRow w7 wa.heap.size v7 (sumTerms (tmap rs) (k+1)):=by
     rw[HTS.out]
     rw[aR.out] at ac
     exact TermRow.snoc ac
    obtain ⟨a7,n7,c7,rfl⟩:=aw.shape
    have HO7:=ZH (aw.off k7 (by decide))
    have HR7:=ZH aw
    clear aw
    have H7:=ZH (ZN ac (ZN k7 aS))
    clear ac aB k7 aS
    go_wp2_with fail
    go_roundg (n-(k+1))
    case measure=>have:=ag.out; omega
    case rel=>exact ⟨k+1,_,by have:=ag.out; omega,by first | (congr 1; done) | (congr 1; exact IntWalk.wrap64_in ((k:Int)+1) (by have h1:=ag.out; have h2:=al.out; omega)),ZH ⟨two_set1 H7.out.2.1 _,TermRow.setNe HR7.out HO7.out 1 _⟩,ZH (H7.out.2.2.setCell (p:=⟨bf,1,none⟩) HGF.out _)⟩
  ·have e1:((k:Int)<(n:Int))=False:=eq_false (by omega)
   obtain rfl:k=n:=by omega
   obtain ⟨ta,tn,tc,rfl⟩:=ai.out.2.shape
   have y0:=ZI ai.out.1 0
   have y1:=ZI ai.out.1 1
   simp at y0 y1
   have an:=(af.out.block bc (ZL ay.out)).trans ay.out
   have z0:=ZI an 0
   have z1:=ZI an 1
   have f0:=ZF an 0
   have f1:=ZF an 1
   simp at z0 z1
   have hr:=(ai.out.2.set (ZL ay.out) 0 (.string S)).set (ZL ay.out) 1 (.slice ta tn tc)
   have hb:=((aC.out.trans (af.out.mono aC.out.size)).setCell (p:=⟨bc,0,none⟩) ao.out (.string S)).setCell (p:=⟨bc,1,none⟩) ao.out (.slice ta tn tc)
   have HF:=ZH (ZN hr hb)
   clear hr hb an ai
   go_wp2_with fail
   refine bodyPost_ret (v:=.agg #[.string S,.slice ta tn tc]) (by simp[results,Tryz.results70,go_sem,z0,z1]) rfl ⟨_,rfl,⟨_,by rw[HS.out],?_⟩,HF.out.2⟩
   exact World.ownsRow.mono HF.out.1 aC.out.size
open Go.Gx (LF)
def rowTo (d:Nat) (l:List Int):Nat→List Rat
 | 0=>List.replicate d 0
 | k+1=>(rowTo d l k).set (headB (l.drop (1+2*k))%d) (smallQ (l.drop (2+2*k)))
theorem rowTo_len (d:Nat) (l:List Int):∀k,(rowTo d l k).length=d
 | 0=>by rw[rowTo,List.length_replicate]
 | k+1=>by rw[rowTo,List.length_set,rowTo_len d l k]
theorem drop_tail (l:List Int) (n:Nat):(l.drop n).tail=l.drop (n+1):=by rw[List.tail_drop]
theorem pgform_any {w:World} (hg:Glob w) {b:Nat} {l:List Int} {d c:Nat} (h:GrIn w b l d c) (hd0:0<d) (hd:d≤1000):Calls Tryz.prog 25 #[.pointer (some ⟨b,0,none⟩)] w fun e w'=>∃v,e=.returned v∧FormIn w' w.heap.size v (numText (growF d l).c) (formTexts (growF d l))∧GrIn w' b (l.drop 5) d c∧Gb b w w':=by
 obtain ⟨wa,bc,aT,aO,aG,ka⟩:=new_box w #[.string ⟨#[]⟩,.slice none 0 0] 57
 have aS:=h.below aG
 obtain ⟨av,cv,h0,-⟩:=id aS
 have y1:=ZI h0 1
 simp at y1
 have HH:=ZH aS
 have HG:=ZH hg
 have HG0:=ZH h
 have aK:=ZH aG
 have az:=ZH ka
 have HW:=ZH (ZN aT aO)
 have aM:=ZH (show b<bc by rw[aO]; exact h.lt)
 have HBC:=ZH (show w.heap.size≤bc by omega)
 have HD:=ZH (ZN hd0 hd)
 have hmk:=run_make_rat d (by omega)
 clear h aG ka aT aO aS h0 hg
 go_enter Tryz.func25,Tryz.ntmps25
 go_upto_region 1 with fail
 rw[←HW.out.1,←HW.out.2]
 clear HW
 go_upto_region 2 with fail
 obtain ⟨w2,aA⟩:∃x,x=wa.alloc (.cells (madeCells #[.bool false,.slice none 0 0,.bool false,.slice none 0 0] (d*4)) 43):=⟨_,rfl⟩
 obtain ⟨bl,aN⟩:∃x,x=wa.heap.size:=⟨_,rfl⟩
 rw[←aA,←aN]
 have au:Below wa.heap.size wa w2:=by rw[aA]; exact (ZR _ wa).alloc (Nat.le_refl _) _
 have aX:RatRow w2 bl d (rowTo d l 0) 4:=by rw[aA,aN]; exact ratrow_zeros wa d 4
 have aF:=ZH (aK.out.trans (au.mono aK.out.size))
 have aQ:=ZH aX
 have aB:=ZH (HH.out.below au)
 have aq:=ZH (show w.heap.size≤bl∧b<bl by have h1:=aK.out.size; have h2:=HH.out.lt; omega)
 have HNC:=ZH (show bc≠bl by have:=ZL az.out; omega)
 have ah:=ZH ((au.block bc (ZL az.out)).trans az.out)
 clear aA aN au aX y1 hmk HH
 go_wp2_with fail
 refine (psmall_any aB.out).mono ?_
 rintro e w3 ⟨v,rfl,hv,ai,ac⟩
 obtain ⟨q1,a1,c1,l1,q2,a2,c2,l2,rfl⟩:=rt_shape hv
 obtain ⟨w4,bs,aZ,aV,an,k4⟩:=new_box w3 #[.bool q1,.slice a1 c1 l1,.bool q2,.slice a2 c2 l2] 43
 have aL:=ZH (ZN aZ aV)
 have HS:=ZH (show RatRow w4 bl d (rowTo d l 0) 4∧GrIn w4 b (l.drop (1+2*0)) d c∧w4.heap[bs]?=some (.cells #[.bool q1,.slice a1 c1 l1,.bool q2,.slice a2 c2 l2] 43 (0,0))∧RtIn w4 (.agg #[.bool q1,.slice a1 c1 l1,.bool q2,.slice a2 c2 l2]) (smallQ l) 4∧w4.heap[bc]?=some (.cells #[.string ⟨#[]⟩,.slice none 0 0] 57 (0,0))∧Gb b w w4 from
  ⟨(aQ.out.but (by have:=aq.out; omega) (gr_nodig aB.out) ac.but).below an,by have h:=ai.below an; rw[←List.drop_one] at h; exact h,k4,hv.below an,(an.block bc (Nat.lt_of_lt_of_le (ZL ah.out) ac.size)).trans ((ac.block bc (ZL ah.out) (by have:=aM.out; simp; omega)).trans ah.out),((Gb.of aF.out).trans ac).more an⟩)
 have a0:=ZH (show bs≠b∧bs≠bl∧bs≠bc∧w.heap.size≤bs from by
  have h1:=aB.out.lt; have h2:=aQ.out.lt; have h3:=ZL ah.out; have h4:=ac.size; have h5:=aF.out.size; omega)
 clear hv ai ac aZ aV an k4 aQ aB aF ah
 go_upto_region 3 with fail
 rw[←aL.out.1,←aL.out.2]
 clear aL
 go_wp2_with fail
 go_loopg [5] 2 (fun gk i wr=>∃k:Nat,k+gk=2∧i=.int .i64 k∧Hid (RatRow wr bl d (rowTo d l k) 4∧GrIn wr b (l.drop (1+2*k)) d c∧wr.heap[bs]?=some (.cells #[.bool q1,.slice a1 c1 l1,.bool q2,.slice a2 c2 l2] 43 (0,0))∧RtIn wr (.agg #[.bool q1,.slice a1 c1 l1,.bool q2,.slice a2 c2 l2]) (smallQ l) 4∧wr.heap[bc]?=some (.cells #[.string ⟨#[]⟩,.slice none 0 0] 57 (0,0))∧Gb b w wr))
 case atStart=>exact ⟨0,by omega,rfl,HS⟩
 case round=>
  obtain ⟨k,hk,rfl,ap⟩:=hrel
  by_cases hlt:k<2
  ·have e1:((k:Int)<2)=True:=eq_true (by omega)
   have ad:=ZH ap.out
   obtain ⟨l0,aI⟩:∃x,x=l.drop (1+2*k):=⟨_,rfl⟩
   obtain ⟨H,hH⟩:∃x,x=headB l0:=⟨_,rfl⟩
   obtain ⟨I,hI⟩:∃x,x=H%d:=⟨_,rfl⟩
   have al:=ZH (ZN aI (ZN hH hI))
   have HX0:=ZH (show Go.Proofs.YtdgimcmappmjdaaGreatDoor.TwoGr b d c 2 9 l0 (fun _=>false) wr.drew from TwoGr.init ((by rw[aI]; exact ap.out.2.1.below (ZR _ _).drew)))
   have htm:(H:Int).tmod (d:Int)=(I:Int):=by rw[hI,Int.tmod_eq_emod_of_nonneg (by omega)]; exact (Int.natCast_emod _ _).symm
   have aJ:=ZH (ZN hlt hk)
   have hI0:(0:Int)≤(I:Int):=by omega
   have hI1:(I:Int)<(d:Int):=by have:=Nat.mod_lt H hd0; omega
   have hdn:¬((d:Int)=0):=by omega
   have hdn2:¬(d=0):=by omega
   have hdn3:((d:Int)==0)=false:=ZQ.2 (by omega)
   clear ap aI hH hI hlt hk hd0 hd
   go_upto_region 6 with fail
   clear e1
   refine FlowX.wp_region_mixR (fun u v=>Gb b u v) (fun u=>Gb.refl b u) (fun _ _ _ h k=>h.more k) (GrS b) (fun _ _ h=>GrS.of h) [0,1,2,3,4,5,6,7,8,9] [true,true,true,true,true,true,true,true,true,true,false,false] (fun j9=>[2,9].contains j9) (fun i9 v w'=>match i9 with
    | 0=>v=.slice (some ⟨bl,0,none⟩) d d
    | 1=>v=.pointer (some ⟨b,0,none⟩)
    | 2=>v=.int .i64 (H:Int)
    | 3=>v=.pointer (some ⟨b,0,none⟩)
    | 4=>v=.pointer (some ⟨b,0,none⟩)
    | 5=>v=.pointer (some ⟨b,1,none⟩)
    | 6=>v=.int .i64 (d:Int)
    | 7=>v=.int .i64 (I:Int)
    | 8=>v=.pointer (some ⟨b,0,none⟩)
    | _=>RtIn w' v (smallQ l0.tail) 4∧b<w'.heap.size∧NoDigAt w' b) (fun L _ w=>TwoGr b d c 2 9 l0 L w) rfl rfl (by kernel_rfl) (by kernel_rfl) (by kernel_rfl) (by kernel_rfl) ?st ?hX ?hX0 ?_ ?_
   case st=>
    intro i9 v u1 u2 h hb
    match i9 with
    | 0 | 1 | 2 | 3 | 4 | 5 | 6 | 7 | 8=>exact h
    | 9 | _+10=>exact RtIn.grs (show RtIn u1 v (smallQ l0.tail) 4∧b<u1.heap.size∧NoDigAt u1 b from h) hb
   case hX=>exact fun L xs w L' xs' w' h he hb=>h.below (he 2 rfl).1 (he 9 rfl).1 hb
   case hX0=>exact fun xs=>HX0.out
   refine Flow.Steps.cons (.inl ⟨rfl,FlowX.StepS.of rfl ?s0⟩) (Flow.Steps.cons (.inl ⟨rfl,FlowX.StepS.of rfl ?s1⟩) (Flow.Steps.cons (.inr ⟨rfl,FlowX.StepX.of rfl ?s2⟩) (Flow.Steps.cons (.inl ⟨rfl,FlowX.StepS.of rfl ?s3⟩) (Flow.Steps.cons (.inl ⟨rfl,FlowX.StepS.of rfl ?s4⟩) (Flow.Steps.cons (.inl ⟨rfl,FlowX.StepS.of rfl ?s5⟩) (Flow.Steps.cons (.inl ⟨rfl,FlowX.StepS.of rfl ?s6⟩) (Flow.Steps.cons (.inl ⟨rfl,FlowX.StepS.of rfl ?s7⟩) (Flow.Steps.cons (.inl ⟨rfl,FlowX.StepS.of rfl ?s8⟩) (Flow.Steps.cons (.inr ⟨rfl,FlowX.StepX.of rfl ?s9⟩) Flow.Steps.nil)))))))))
   case s0 | s1 | s3 | s8=>
    intro L9 xs w' hb hT af K9 aa
    clear hT
    simp only[zFp,zAp,zLa,zLb,zLc,Nat.reduceAdd,zNz] at aa⊢
    have hw:=hb
    go_simp
    exact aa _ _ (ZR _ _) rfl
   case s2=>
    intro L9 xs w' hb hT af ax K9 aa
    have h1:(xs 1)=.pointer (some ⟨b,0,none⟩):=(hT 1 (by kernel_rfl)).2
    clear hT
    simp only[zFp,zAp,zLa,zLb,zLc,Nat.reduceAdd,zNz] at aa⊢
    have hw:=hb
    (try simp only[h1] at aa)
    go_simp
    go_at_call 69
    refine (pnext_any (af.s0 ax)).mono ?_
    rintro e w3 ⟨rfl,ai,ac⟩
    exact aa _ _ (hb.trans ac) (GrS.gr ac ai) (by rw[al.out.2.1]) (af.make1 (by decide) ax ai)
   case s4=>
    intro L9 xs w' hb hT af K9 aa
    have h3:(xs 3)=.pointer (some ⟨b,0,none⟩):=(hT 3 (by kernel_rfl)).2
    clear hT
    simp only[zFp,zAp,zLa,zLb,zLc,Nat.reduceAdd,zNz] at aa⊢
    have hw:=hb
    (try simp only[h3] at aa)
    go_simp
    exact aa _ _ (ZR _ _) rfl
   case s5=>
    intro L9 xs w' hb hT af K9 aa
    have h4:(xs 4)=.pointer (some ⟨b,0,none⟩):=(hT 4 (by kernel_rfl)).2
    clear hT
    simp only[zFp,zAp,zLa,zLb,zLc,Nat.reduceAdd,zNz] at aa⊢
    have hw:=hb
    (try simp only[h4] at aa)
    go_simp
    exact aa _ _ (ZR _ _) rfl
   case s6=>
    intro L9 xs w' hb hT af K9 aa
    have h5:(xs 5)=.pointer (some ⟨b,1,none⟩):=(hT 5 (by kernel_rfl)).2
    clear hT
    simp only[zFp,zAp,zLa,zLb,zLc,Nat.reduceAdd,zNz] at aa⊢
    have hw:=hb
    (try simp only[h5] at aa)
    obtain ⟨l9,av,cv9,h9,-⟩:=af.any
    have y1:=ZI h9 1
    simp at y1
    clear h9
    go_simp
    exact aa _ _ (ZR _ _) rfl
   case s7=>
    intro L9 xs w' hb hT af K9 aa
    have h2:(xs 2)=.int .i64 (H:Int):=(hT 2 (by kernel_rfl)).2
    have h6:(xs 6)=.int .i64 (d:Int):=(hT 6 (by kernel_rfl)).2
    clear hT
    simp only[zFp,zAp,zLa,zLb,zLc,Nat.reduceAdd,zNz] at aa⊢
    have hw:=hb
    (try simp only[h2] at aa)
    (try simp only[h6] at aa)
    go_simp
    exact aa _ _ (ZR _ _) rfl
   case s9=>
    intro L9 xs w' hb hT af ax K9 aa
    have h2:(xs 2)=.int .i64 (H:Int):=(hT 2 (by kernel_rfl)).2
    have l2:L9 2=true:=(hT 2 (by kernel_rfl)).1
    have h8:(xs 8)=.pointer (some ⟨b,0,none⟩):=(hT 8 (by kernel_rfl)).2
    clear hT
    simp only[zFp,zAp,zLa,zLb,zLc,Nat.reduceAdd,zNz] at aa⊢
    have hw:=hb
    (try simp only[h2] at aa)
    (try simp only[h8] at aa)
    have a3:=l2
    have hq9:=af.s1 a3 ax
    go_simp
    go_at_call 68
    refine (psmall_any hq9).mono ?_
    rintro e w3 ⟨v3,rfl,hv3,ai,ac⟩
    exact aa _ _ (hb.trans ac) (GrS.gr ac ai) ⟨hv3,ai.lt,gr_nodig ai⟩ (af.make2 (by decide) a3 ai)
   intro xs w' hb hT af
   have hw:=hb
   have h0:(xs 0)=.slice (some ⟨bl,0,none⟩) d d:=hT 0 (by rfl)
   have h7:(xs 7)=.int .i64 (I:Int):=hT 7 (by rfl)
   have h9:RtIn w' (xs 9) (smallQ l0.tail) 4∧b<w'.heap.size∧NoDigAt w' b:=hT 9 (by rfl)
   clear hT
   simp only[zFp,zAp,zLa,zLb,zLc,Nat.reduceAdd,zNz,FlowR.restL]
   obtain ⟨aC,-,-⟩:=h9
   obtain ⟨p1,g1,i1,j1,p2,g2,i2,j2,e9⟩:=rt_shape aC
   rw[e9] at aC
   simp only[h0,h7,e9]
   clear h0 h7 e9
   have a4:GrIn w' b l0.tail.tail d c:=af.s2 (by rfl)
   have ag:Gb b wr w':=(Gb.of (ZR _ wr).drew).trans hb
   have am:=ad.out.1.but (by have:=aq.out; omega) (gr_nodig ad.out.2.1) ag.but
   have aE:=(ag.block bs (ZL ad.out.2.2.1) (by have:=a0.out; simp; omega)).trans ad.out.2.2.1
   have aP:=(ag.block bc (ZL ad.out.2.2.2.2.1) (by have:=aM.out; simp; omega)).trans ad.out.2.2.2.2.1
   have aU:=ad.out.2.2.2.1.but (gr_nodig ad.out.2.1) ag.but
   have ay:I<(rowTo d l k).length:=by rw[rowTo_len]; omega
   obtain ⟨b0,b1,b2,b3,b4,b5,b6,b7,m0,m1,m2,m3,-⟩:=am.at4 ay
   obtain ⟨cs,ar,-⟩:=id am
   have f0:=ZF ar (I*4)
   have f1:=ZF ar (I*4+1)
   have f2:=ZF ar (I*4+2)
   have f3:=ZF ar (I*4+3)
   have hu:But bl w' ((((w'.setCell ⟨bl,I*4,none⟩ (.bool p1)).setCell ⟨bl,I*4+1,none⟩ (.slice g1 i1 j1)).setCell ⟨bl,I*4+2,none⟩ (.bool p2)).setCell ⟨bl,I*4+3,none⟩ (.slice g2 i2 j2)):=((((But.refl bl w').set _ _).set _ _).set _ _).set _ _
   have aW:=am.put (rowTo_len d l k) (i:=I) (by rw[rowTo_len] at ay; exact ay) aC
   have ak:Gb b w w':=ad.out.2.2.2.2.2.trans ag
   have HE:=ZH (ZN aW (ZN (a4.but (am.nobyte (rowTo_len d l k)) (by have:=aq.out; omega) hu) (ZN ((hu.block bs (by have:=a0.out; omega) (ZL aE)).trans aE) (ZN (aU.but am.nodig hu) (ZN ((hu.block bc (by have h1:=ZL az.out; have h2:=aq.out; have h3:=HNC.out; omega) (ZL aP)).trans aP) (show Gb b w ((((w'.setCell ⟨bl,I*4,none⟩ (.bool p1)).setCell ⟨bl,I*4+1,none⟩ (.slice g1 i1 j1)).setCell ⟨bl,I*4+2,none⟩ (.bool p2)).setCell ⟨bl,I*4+3,none⟩ (.slice g2 i2 j2)) from ⟨ak.os,ak.tape,ak.output,Nat.le_trans ak.size hu.size,fun k hk hn=>(hu.block k (by have:=aq.out; omega) (Nat.lt_of_lt_of_le hk ak.size)).trans (ak.block k hk hn)⟩))))))
   clear aC a4 ag am aE aP aU ay ar hu aW ak af hb
   go_wp2_with fail
   go_roundg (2-(k+1))
   case measure=>have:=aJ.out; omega
   case rel=>exact ⟨k+1,by have:=aJ.out; omega,by first | (congr 1; done) | (congr 1; exact IntWalk.wrap64_in ((k:Int)+1) (by have h1:=aJ.out; omega)),ZH ⟨by rw[rowTo,←al.out.1,←al.out.2.1,←al.out.2.2,show l.drop (2+2*k)=l0.tail by rw[al.out.1,drop_tail]; congr 1; omega]; exact HE.out.1,by rw[show l.drop (1+2*(k+1))=l0.tail.tail by rw[al.out.1,drop_tail,drop_tail]; congr 1]; exact HE.out.2.1,HE.out.2.2.1,HE.out.2.2.2.1,HE.out.2.2.2.2.1,HE.out.2.2.2.2.2⟩⟩
  ·have e1:((k:Int)<2)=False:=eq_false (by omega)
   obtain rfl:k=2:=by omega
   have ad:=ZH ap.out
   clear ap hlt hk
   obtain ⟨z0,z1,z2,z3⟩:=cells4 (ZR _ wr) ad.out.2.2.1
   have aD:=pform_any (HG.out.gr HG0.out ad.out.2.2.2.2.2) ad.out.2.2.2.1 (by omega) (ad.out.1.reads (rowTo_len d l 2) (by unfold maxLen; omega)) (by rw[rowTo_len]; omega) (by omega)
   rw[rowTo_len] at aD
   have HPF:=ZH aD
   clear aD
   go_wp2_with fail
   refine HPF.out.mono ?_
   rintro e w5 ⟨v,rfl,ao,aw⟩
   obtain ⟨tv,rfl,aH⟩:=ao
   obtain ⟨ta,tn,tc,rfl⟩:=aH.shape
   have kc:=(aw.block bc (ZL ad.out.2.2.2.2.1)).trans ad.out.2.2.2.2.1
   obtain ⟨NT,aR⟩:∃s:ByteArray,s=⟨(numText (smallQ l)).toArray⟩:=⟨_,rfl⟩
   rw[←aR]
   have y0:=ZI kc 0
   have y1:=ZI kc 1
   have f0:=ZF kc 0
   have f1:=ZF kc 1
   simp at y0 y1
   have aj:=ZL ad.out.2.2.2.2.1
   have hu:But bc w5 ((w5.setCell ⟨bc,0,none⟩ (.string NT)).setCell ⟨bc,1,none⟩ (.slice ta tn tc)):=((But.refl bc w5).set 0 _).set 1 _
   have aY:NoByteAt w5 bc:=by
    intro i x e
    rw[ZI kc] at e
    match i,e with
    | 0,e=>simp at e
    | 1,e=>simp at e
    | _+2,e=>simp at e
   have ae:Gb b w w5:=ad.out.2.2.2.2.2.more aw
   have HF:=ZH (ZN ((aH.set aj 0 (.string NT)).set aj 1 (.slice ta tn tc)) (ZN ((ad.out.2.1.below aw).but aY (by have:=aM.out; omega) hu) (show Gb b w ((w5.setCell ⟨bc,0,none⟩ (.string NT)).setCell ⟨bc,1,none⟩ (.slice ta tn tc)) from ⟨ae.os,ae.tape,ae.output,Nat.le_trans ae.size hu.size,fun k hk hn=>(hu.block k (by have:=HBC.out; omega) (Nat.lt_of_lt_of_le hk ae.size)).trans (ae.block k hk hn)⟩)))
   have HSZ:=ZH ad.out.2.2.2.2.2.size
   have HNT:=ZH aR
   clear aH kc aj hu aY ae aw aR z0 z1 z2 z3 e1
   go_wp2_with fail
   refine bodyPost_ret (v:=.agg #[.string NT,.slice ta tn tc]) (by simp[results,Tryz.results25,go_sem,y0,y1]) rfl ⟨_,rfl,⟨_,by rw[HNT.out]; rfl,?_⟩,HF.out.2.1,HF.out.2.2⟩
   have h9:TermRow _ w.heap.size _ _:=World.ownsRow.mono HF.out.1 HSZ.out
   have e9:formTexts (growF d l)=sumTerms (tmap (rowTo d l 2)) d:=by
    unfold formTexts
    rw[growF_len]
    rfl
   rw[e9]
   exact h9
open Go.Gx (LF GEx)
set_option maxHeartbeats 16000000
def GrPost (w:World) (b d:Nat) (r:GEx×List Int×Nat) (e:Ending) (w':World):Prop:=∃v,e=.returned v∧ExP w' (fun g=>w.heap.size≤g) (raw r.1) v∧GrIn w' b r.2.1 d r.2.2∧Gb b w w'
theorem gb_box {b b2:Nat} {w w' w2:World} (h:Gb b w w') (hu:But b2 w' w2) (ho:w2.os=w'.os) (ht:w2.tape=w'.tape) (hp:w2.output=w'.output) (hn:w.heap.size≤b2):Gb b w w2:=⟨ho.trans h.os,ht.trans h.tape,hp.trans h.output,Nat.le_trans h.size hu.size,fun k hk hne=>(hu.block k (by omega) (Nat.lt_of_lt_of_le hk h.size)).trans (h.block k hk hne)⟩
theorem nobyte5 {w:World} {b:Nat} {t:TypeId} {o:Int} {s1 s2:ByteArray} {a1:Option Addr} {n1 c1:Nat} {a2:Option Addr} {n2 c2:Nat} (h:w.heap[b]?=some (.cells #[.int .i64 o,.string s1,.slice a1 n1 c1,.string s2,.slice a2 n2 c2] t (0,0))):NoByteAt w b:=by
 intro i x e
 rw[ZI h] at e
 match i,e with
 | 0,e=>simp at e
 | 1,e=>simp at e
 | 2,e=>simp at e
 | 3,e=>simp at e
 | 4,e=>simp at e
 | _+5,e=>simp at e
theorem five_set4 {w:World} {b:Nat} {u0 u1 u2 u3 u4:Value} {t:TypeId} (h:w.heap[b]?=some (.cells #[u0,u1,u2,u3,u4] t (0,0))) (u:Value):(w.setCell ⟨b,4,none⟩ u).heap[b]?=some (.cells #[u0,u1,u2,u3,u] t (0,0)):=by simp[World.setCell,Array.getElem?_modify,h]
theorem five_set3 {w:World} {b:Nat} {u0 u1 u2 u3 u4:Value} {t:TypeId} (h:w.heap[b]?=some (.cells #[u0,u1,u2,u3,u4] t (0,0))) (u:Value):(w.setCell ⟨b,3,none⟩ u).heap[b]?=some (.cells #[u0,u1,u2,u,u4] t (0,0)):=by simp[World.setCell,Array.getElem?_modify,h]
theorem gr_more {w:World} {b:Nat} {l:List Int} {d c:Nat} (h:GrIn w b l d c):GrIn (w.setCell ⟨b,2,none⟩ (.int .i64 ((c:Int)+1))) b l d (c+1):=by
 obtain ⟨ao,cv,h0,h1,h2,h3⟩:=h
 refine ⟨ao,cv,?_,h1,h2,fun hl=>?_⟩
 ·rw[gr_set2 h0]; rfl
 ·obtain ⟨g,o,e,hn,hc⟩:=h3 hl
  exact ⟨g,o,e,hn,fun j hj=>⟨cell_keep (Below.heap_setCell _ _ _ _ (Nat.ne_of_lt hn)) (hc j hj).1,(hc j hj).2⟩⟩
theorem growE_form {d L c:Nat} {l:List Int} (h:L=0∨20<c∨headB l%7=0∨headB l%7=6):growE d L l c=growForm d l c:=by
 cases L with
 | zero=>rfl
 | succ L=>rw[growE,if_pos (by omega)]
theorem pexpr_step {d:Nat} (hd0:0<d) (hd:d≤1000) {L:Nat} (hL:L≤1000) (ih:∀L',L=L'+1→∀{w:World} (_:Glob w) {b:Nat} {l:List Int} {c:Nat} (_:GrIn w b l d c) (_:c+NN L'≤1000000000),Calls Tryz.prog 83 #[.pointer (some ⟨b,0,none⟩),.int .i64 ((L':Int)+1)] w (GrPost w b d (growE d L' l c)))
  {w:World} (hg:Glob w) {b:Nat} {l:List Int} {c:Nat} (h:GrIn w b l d c) (hcb:c+NN L≤1000000000):Calls Tryz.prog 83 #[.pointer (some ⟨b,0,none⟩),.int .i64 ((L:Int)+1)] w (GrPost w b d (growE d L l c)):=by
 unfold GrPost
 obtain ⟨wa,bc,bu,bO,ba,ka⟩:=new_box w #[.int .i64 0,.string ⟨#[]⟩,.slice none 0 0,.string ⟨#[]⟩,.slice none 0 0] 63
 have bN:=ZH ih
 have HH:=ZH (h.below ba)
 have HG:=ZH hg
 have bk:=ZH h
 have HLA:=ZH ba
 have bE:=ZH ka
 have HW:=ZH (ZN bu bO)
 have ap:=ZH (show w.heap.size≤bc∧b<bc by have:=h.lt; omega)
 have HC:=ZH (show L≤1000∧c+NN L≤1000000000∧0<d∧d≤1000 from ⟨hL,hcb,hd0,hd⟩)
 clear h ba ka bu bO hg ih hL hcb hd0 hd
 go_enter Tryz.func83,Tryz.ntmps83
 go_upto_region 1 with fail
 rw[←HW.out.1,←HW.out.2]
 clear HW
 obtain ⟨H,hH⟩:∃x,x=headB l:=⟨_,rfl⟩
 obtain ⟨o,ho⟩:∃x,x=H%7:=⟨_,rfl⟩
 have a3:(H:Int).tmod 7=(o:Int):=by rw[ho,Int.tmod_eq_emod_of_nonneg (by omega)]; exact (Int.natCast_emod _ _).symm
 have HO:=ZH (show o=headB l%7∧o<7 by rw[ho,hH]; exact ⟨rfl,Nat.mod_lt _ (by decide)⟩)
 clear ho
 go_wp2_with fail
 refine (pnext_any HH.out).mono ?_
 rintro e w2 ⟨rfl,bl,aG⟩
 rw[←hH]
 have a4:=ZH (ZN bl (ZN (aG.block bc (ZL bE.out) (by have:=ap.out; simp; omega) |>.trans bE.out) ((Gb.of HLA.out).trans aG)))
 obtain ⟨av,cv,bj,-⟩:=id bl
 have y2:=ZI bj 2
 have f2:=ZF bj 2
 simp at y2
 clear bl aG hH bj
 go_upto_region 2 with fail
 clear a3
 go_cut [28] from 12 to 29 (fun v wx=>v=.bool (decide (L=0∨20<c∨o=0∨o=6))∧wx=w2)
 case first=>
  by_cases hL0:L=0
  ·have e1:((L:Int)+1≤1)=True:=eq_true (by omega)
   have HP:=ZH (show (L=0∨20<c∨o=0∨o=6) from .inl hL0)
   clear hL0
   go_wp2_with fail
   go_meet
   exact ⟨congrArg Value.bool (ZT HP.out).symm,rfl⟩
  ·have e1:((L:Int)+1≤1)=False:=eq_false (by omega)
   by_cases h20:20<c
   ·have e2:((20:Int)<(c:Int))=True:=eq_true (by omega)
    have HP:=ZH (show (L=0∨20<c∨o=0∨o=6) from .inr (.inl h20))
    clear hL0 h20
    go_wp2_with fail
    go_meet
    exact ⟨congrArg Value.bool (ZT HP.out).symm,rfl⟩
   ·have e2:((20:Int)<(c:Int))=False:=eq_false (by omega)
    by_cases ho0:o=0
    ·have e3:((o:Int)==0)=true:=beq_iff_eq.2 (by omega)
     have HP:=ZH (show (L=0∨20<c∨o=0∨o=6) from .inr (.inr (.inl ho0)))
     clear hL0 h20 ho0
     go_wp2_with fail
     go_meet
     exact ⟨congrArg Value.bool (ZT HP.out).symm,rfl⟩
    ·have e3:((o:Int)==0)=false:=ZQ.2 (by omega)
     by_cases ho6:o=6
     ·have e4:((o:Int)==6)=true:=beq_iff_eq.2 (by omega)
      have HP:=ZH (show (L=0∨20<c∨o=0∨o=6) from .inr (.inr (.inr ho6)))
      clear hL0 h20 ho0 ho6
      go_wp2_with fail
      go_meet
      exact ⟨congrArg Value.bool (ZT HP.out).symm,rfl⟩
     ·have e4:((o:Int)==6)=false:=ZQ.2 (by omega)
      have HP:=ZH (show ¬(L=0∨20<c∨o=0∨o=6) by omega)
      clear hL0 h20 ho0 ho6
      go_wp2_with fail
      go_meet
      exact ⟨congrArg Value.bool (ZU HP.out).symm,rfl⟩
 case rest=>
 obtain ⟨rfl,rfl⟩:=hcut
 have bA:wrap64 ((c:Int)+1)=(c:Int)+1:=IntWalk.wrap64_in _ (by have:=HC.out; omega)
 obtain ⟨w3,a5⟩:∃x,x=wc.setCell ⟨b,2,none⟩ (.int .i64 ((c:Int)+1)):=⟨_,rfl⟩
 have ao:=ZH (show GrIn w3 b l.tail d (c+1)∧w3.heap[bc]?=some (.cells #[.int .i64 0,.string ⟨#[]⟩,.slice none 0 0,.string ⟨#[]⟩,.slice none 0 0] 63 (0,0))∧Gb b w w3 from by
  rw[a5]
  exact ⟨gr_more a4.out.1,(Below.heap_setCell _ _ _ _ (show bc≠b by have:=ap.out; omega)).trans a4.out.2.1,a4.out.2.2.set 2 _⟩)
 have aW:=ZH a5
 clear a5 a4
 by_cases hB:L=0∨20<c∨o=0∨o=6
 ·rw[ZT hB]
  have HE:=ZH (show growE d L l c=growForm d l c from growE_form (by rw[←HO.out.1]; exact hB))
  clear hB
  go_upto_region 4 with fail
  rw[←aW.out]
  clear aW y2 f2 bA
  go_wp2_with fail
  refine (pgform_any (HG.out.gr bk.out ao.out.2.2) ao.out.1 HC.out.2.2.1 HC.out.2.2.2).mono ?_
  rintro e w4 ⟨v,rfl,aM,bp,aB⟩
  obtain ⟨tv,rfl,bb⟩:=aM
  obtain ⟨ta,tn,tc,rfl⟩:=bb.shape
  have kc:=(aB.block bc (ZL ao.out.2.1) (by have:=ap.out; simp; omega)).trans ao.out.2.1
  obtain ⟨NT,aI⟩:∃s:ByteArray,s=⟨(numText (growF d l.tail).c).toArray⟩:=⟨_,rfl⟩
  rw[←aI]
  obtain ⟨y0,y1,y2,y3,y4⟩:=cells5 (ZR _ w4) kc
  have f0:=ZF kc 0
  have f1:=ZF kc 1
  have f2:=ZF kc 2
  have f3:=ZF kc 3
  have f4:=ZF kc 4
  have hu:But bc w4 (((((w4.setCell ⟨bc,0,none⟩ (.int .i64 0)).setCell ⟨bc,1,none⟩ (.string NT)).setCell ⟨bc,2,none⟩ (.slice ta tn tc)).setCell ⟨bc,3,none⟩ (.string ⟨#[]⟩)).setCell ⟨bc,4,none⟩ (.slice none 0 0)):=(((((But.refl bc w4).set _ _).set _ _).set _ _).set _ _).set _ _
  have bs:Gb b w (((((w4.setCell ⟨bc,0,none⟩ (.int .i64 0)).setCell ⟨bc,1,none⟩ (.string NT)).setCell ⟨bc,2,none⟩ (.slice ta tn tc)).setCell ⟨bc,3,none⟩ (.string ⟨#[]⟩)).setCell ⟨bc,4,none⟩ (.slice none 0 0)):=gb_box (ao.out.2.2.trans aB) hu rfl rfl rfl ap.out.1
  have bm:=ZL ao.out.2.1
  have bo:TermsP (((((w4.setCell ⟨bc,0,none⟩ (.int .i64 0)).setCell ⟨bc,1,none⟩ (.string NT)).setCell ⟨bc,2,none⟩ (.slice ta tn tc)).setCell ⟨bc,3,none⟩ (.string ⟨#[]⟩)).setCell ⟨bc,4,none⟩ (.slice none 0 0)) (fun g=>w.heap.size≤g) (.slice ta tn tc) (zTerms (formTexts (growF d l.tail))):=(bb.at.keep ⟨hu.size,fun g hg hl=>hu.block g (by omega) hl⟩).mono fun g hg _=>by have:=ao.out.2.2.size; omega
  have HF:=ZH (ZN bo (ZN (bp.but (nobyte5 kc) (by have:=ap.out; omega) hu) bs))
  have HNT:=ZH aI
  clear hu bs bm bo bb bp aB kc aI
  go_wp2_with fail
  refine bodyPost_ret (v:=.agg #[.int .i64 0,.string NT,.slice ta tn tc,.string ⟨#[]⟩,.slice none 0 0]) (by simp[results,Tryz.results83,go_sem,y0,y1,y2,y3,y4]) rfl ⟨_,rfl,?_,?_,HF.out.2.2⟩
  ·rw[HE.out]
   unfold growForm
   rw[raw,List.drop_one]
   have h9:=ExP.of (x:=.mk 0 (numText (growF d l.tail).c) (zTerms (formTexts (growF d l.tail))) [] []) HF.out.1 (exsP_none _ _)
   simp only[Ex.op,Ex.c,Ex.f,←HNT.out] at h9
   exact h9
  ·rw[HE.out]
   unfold growForm
   have h9:=HF.out.2.1
   rw[←List.drop_one,List.drop_drop] at h9
   exact h9
 ·rw[ZU hB]
  have bK:=ZH hB
  obtain ⟨L',aN⟩:∃L',L=L'+1:=⟨L-1,by omega⟩
  have bQ:growE d L l c=growOp (growE d L') l c:=by
   subst aN
   rw[growE,if_neg (by rw[←HO.out.1]; omega)]
  have aD:=growOp_raw (g:=growE d L') (l:=l) (c:=c) (by rw[←HO.out.1]; omega) (by rw[←HO.out.1]; omega)
  rw[←HO.out.1,←bQ] at aD
  have HE:=ZH aD
  have bD:c+1+3*NN L'≤1000000000:=by
   have h1:=HC.out.2.1
   rw[aN,NN] at h1
   omega
  have aL:=ZH (fun (W:World) (hW:Glob W) (l9:List Int) (c9:Nat) (h9:GrIn W b l9 d c9) (hc9:c9+NN L'≤1000000000)=>bN.out L' aN hW h9 hc9)
  have bM:=ZH (ZN aN bD)
  clear hB bQ aD aN bD bN
  go_upto_region 6 with fail
  rw[←aW.out]
  clear aW y2 f2 bA
  obtain ⟨w5,bx,bL,br,a1,k5⟩:=new_box w3 #[.int .i64 (o:Int),.string ⟨#[]⟩,.slice none 0 0,.string ⟨#[]⟩,.slice none 0 0] 63
  have a9:=ZH (ZN bL br)
  have af:=ZH (show w5.heap[bx]?=some (.cells #[.int .i64 (o:Int),.string ⟨#[]⟩,.slice none 0 0,.string ⟨#[]⟩,.slice none 0 0] 63 (0,0))∧GrIn w5 b l.tail d (c+1)∧w5.heap[bc]?=some (.cells #[.int .i64 0,.string ⟨#[]⟩,.slice none 0 0,.string ⟨#[]⟩,.slice none 0 0] 63 (0,0))∧Gb b w w5 from ⟨k5,ao.out.1.below a1,(a1.block bc (ZL ao.out.2.1)).trans ao.out.2.1,ao.out.2.2.more a1⟩)
  have aj:=ZH (show bc<bx∧bx<w5.heap.size∧b<bx from by have h1:=ZL ao.out.2.1; have h2:=ZL k5; have h3:=ap.out; omega)
  clear bL br a1 k5 ao
  go_upto_region 7 with fail
  rw[←a9.out.1,←a9.out.2]
  clear a9
  go_upto_block 0 with fail
  have aE:=ZH (show (o=1∨o=2∨o=3∨o=4∨o=5)∧o=headB l%7 by have h1:=HO.out; have h2:=bK.out; omega)
  go_cut [7] from 49 to 63 (fun n wx=>n=.int .i64 (argN l:Int)∧Hid (wx.heap[bx]?=some (.cells #[.int .i64 (o:Int),.string ⟨#[]⟩,.slice none 0 0,.string ⟨(argF l).toArray⟩,.slice none 0 0] 63 (0,0))∧GrIn wx b (argL l) d (c+1)∧wx.heap[bc]?=some (.cells #[.int .i64 0,.string ⟨#[]⟩,.slice none 0 0,.string ⟨#[]⟩,.slice none 0 0] 63 (0,0))∧Gb b w wx∧bx<wx.heap.size))
  case first=>
   by_cases h2:o=2
   ·have e1:((o:Int)==2)=true:=beq_iff_eq.2 (by omega)
    have ag:=ZH (show ((argN l:Nat):Int)=1∧argL l=l.tail.tail∧argF l=numText (smallQ l.tail) from by
     have h9:=aE.out
     refine ⟨?_,?_,?_⟩
     ·unfold argN; rw[if_pos (by omega)]; rfl
     ·unfold argL; rw[if_neg (by omega),←List.drop_one,←List.drop_one,List.drop_drop]
     ·unfold argF; rw[if_pos (by omega),List.drop_one])
    clear h2
    go_wp2_with fail
    refine (psmall_any af.out.2.1).mono ?_
    rintro e w6 ⟨v,rfl,hv,aw,ad⟩
    have aU:=ZH (ZN hv (ZN aw (af.out.2.2.2.trans ad)))
    have aY:=ZH (ZN ((ad.block bx aj.out.2.1 (by have:=aj.out; simp; omega)).trans af.out.1) ((ad.block bc (ZL af.out.2.2.1) (by have:=ap.out; simp; omega)).trans af.out.2.2.1))
    clear hv aw ad
    go_wp2_with fail
    refine (Number_any aU.out.1 (by omega) (HG.out.gr bk.out aU.out.2.2)).mono ?_
    rintro e w7 ⟨rfl,ak⟩
    obtain ⟨NT,aI⟩:∃s:ByteArray,s=⟨(numText (smallQ l.tail)).toArray⟩:=⟨_,rfl⟩
    rw[←aI]
    have kx:=(ak.block bx (ZL aY.out.1)).trans aY.out.1
    have z3:=ZI kx 3
    have f3:=ZF kx 3
    simp at z3
    have hu:But bx w7 (w7.setCell ⟨bx,3,none⟩ (.string NT)):=(But.refl bx w7).set _ _
    have bi:=(ak.block bc (ZL aY.out.2)).trans aY.out.2
    have aH:=ZH (show (w7.setCell ⟨bx,3,none⟩ (.string NT)).heap[bx]?=some (.cells #[.int .i64 (o:Int),.string ⟨#[]⟩,.slice none 0 0,.string ⟨(argF l).toArray⟩,.slice none 0 0] 63 (0,0))∧GrIn (w7.setCell ⟨bx,3,none⟩ (.string NT)) b (argL l) d (c+1)∧(w7.setCell ⟨bx,3,none⟩ (.string NT)).heap[bc]?=some (.cells #[.int .i64 0,.string ⟨#[]⟩,.slice none 0 0,.string ⟨#[]⟩,.slice none 0 0] 63 (0,0))∧Gb b w (w7.setCell ⟨bx,3,none⟩ (.string NT))∧bx<(w7.setCell ⟨bx,3,none⟩ (.string NT)).heap.size from by
     refine ⟨by rw[five_set3 kx,ag.out.2.2,aI],?_,(hu.block bc (by have:=aj.out; omega) (ZL bi)).trans bi,gb_box (aU.out.2.2.more ak) hu rfl rfl rfl (by have h1:=aj.out; have h2:=ap.out; omega),Nat.lt_of_lt_of_le (ZL kx) hu.size⟩
     rw[ag.out.2.1]
     exact (aU.out.2.1.below ak).but (nobyte5 kx) (by have:=aj.out; omega) hu)
    clear ak kx hu bi aI
    go_wp2_with fail
    go_meet
    exact ⟨by first | (rw[ag.out.1]; done) | (rw[ag.out.1]; exact aJ.out),aH⟩
   by_cases h5:o=5
   ·have e1:((o:Int)==2)=false:=ZQ.2 (by omega)
    have e2:((o:Int)==1)=false:=ZQ.2 (by omega)
    have e3:((o:Int)==3)=false:=ZQ.2 (by omega)
    have e4:((o:Int)==4)=false:=ZQ.2 (by omega)
    have ag:=ZH (show ((argN l:Nat):Int)=1∧argL l=l.tail∧argF l = [] from by
     have h9:=aE.out
     refine ⟨?_,?_,?_⟩
     ·unfold argN; rw[if_pos (by omega)]; rfl
     ·unfold argL; rw[if_pos (by omega),List.drop_one]
     ·unfold argF; rw[if_neg (by omega)])
    clear h2 h5
    go_wp2_with fail
    go_meet
    exact ⟨by rw[ag.out.1],ZH ⟨by rw[ag.out.2.2]; exact af.out.1,by rw[ag.out.2.1]; exact af.out.2.1,af.out.2.2.1,af.out.2.2.2,aj.out.2.1⟩⟩
   rcases (show o=1∨o=3∨o=4 by have:=aE.out; omega) with h3 | h3 | h3
   ·have e1:((o:Int)==2)=false:=ZQ.2 (by omega)
    have e2:((o:Int)==1)=true:=beq_iff_eq.2 (by omega)
    obtain ⟨H2,au⟩:∃x,x=headB l.tail:=⟨_,rfl⟩
    obtain ⟨M,hM⟩:∃x,x=H2%3:=⟨_,rfl⟩
    have a3:(H2:Int).tmod 3=(M:Int):=by rw[hM,Int.tmod_eq_emod_of_nonneg (by omega)]; exact (Int.natCast_emod _ _).symm
    have aJ:=ZH (show Value.int .i64 (wrap64 (1+(M:Int)))=Value.int .i64 (1+(M:Int)) from by rw[IntWalk.wrap64_in (1+(M:Int)) (by omega)])
    have ag:=ZH (show ((argN l:Nat):Int)=1+(M:Int)∧argL l=l.tail.tail∧argF l = [] from by
     have h9:=aE.out
     refine ⟨?_,?_,?_⟩
     ·unfold argN; rw[if_neg (by omega),hM,au,←List.drop_one]; omega
     ·unfold argL; rw[if_neg (by omega),←List.drop_one,←List.drop_one,List.drop_drop]
     ·unfold argF; rw[if_neg (by omega)])
    clear hM h2 h5 h3
    go_wp2_with fail
    refine (pnext_any af.out.2.1).mono ?_
    rintro e w6 ⟨rfl,aw,ad⟩
    rw[←au]
    have aH:=ZH (show w6.heap[bx]?=some (.cells #[.int .i64 (o:Int),.string ⟨#[]⟩,.slice none 0 0,.string ⟨(argF l).toArray⟩,.slice none 0 0] 63 (0,0))∧GrIn w6 b (argL l) d (c+1)∧w6.heap[bc]?=some (.cells #[.int .i64 0,.string ⟨#[]⟩,.slice none 0 0,.string ⟨#[]⟩,.slice none 0 0] 63 (0,0))∧Gb b w w6∧bx<w6.heap.size from by
     rw[ag.out.2.1,ag.out.2.2]
     exact ⟨(ad.block bx aj.out.2.1 (by have:=aj.out; simp; omega)).trans af.out.1,aw,(ad.block bc (ZL af.out.2.2.1) (by have:=ap.out; simp; omega)).trans af.out.2.2.1,af.out.2.2.2.trans ad,Nat.lt_of_lt_of_le aj.out.2.1 ad.size⟩)
    clear aw ad au
    go_wp2_with fail
    go_meet
    exact ⟨by first | (rw[ag.out.1]; done) | (rw[ag.out.1]; exact aJ.out),aH⟩
   ·have e1:((o:Int)==2)=false:=ZQ.2 (by omega)
    have e2:((o:Int)==1)=false:=ZQ.2 (by omega)
    have e4:((o:Int)==3)=true:=beq_iff_eq.2 (by omega)
    obtain ⟨H2,au⟩:∃x,x=headB l.tail:=⟨_,rfl⟩
    obtain ⟨M,hM⟩:∃x,x=H2%3:=⟨_,rfl⟩
    have a3:(H2:Int).tmod 3=(M:Int):=by rw[hM,Int.tmod_eq_emod_of_nonneg (by omega)]; exact (Int.natCast_emod _ _).symm
    have aJ:=ZH (show Value.int .i64 (wrap64 (1+(M:Int)))=Value.int .i64 (1+(M:Int)) from by rw[IntWalk.wrap64_in (1+(M:Int)) (by omega)])
    have ag:=ZH (show ((argN l:Nat):Int)=1+(M:Int)∧argL l=l.tail.tail∧argF l = [] from by
     have h9:=aE.out
     refine ⟨?_,?_,?_⟩
     ·unfold argN; rw[if_neg (by omega),hM,au,←List.drop_one]; omega
     ·unfold argL; rw[if_neg (by omega),←List.drop_one,←List.drop_one,List.drop_drop]
     ·unfold argF; rw[if_neg (by omega)])
    clear hM h2 h5 h3
    go_wp2_with fail
    refine (pnext_any af.out.2.1).mono ?_
    rintro e w6 ⟨rfl,aw,ad⟩
    rw[←au]
    have aH:=ZH (show w6.heap[bx]?=some (.cells #[.int .i64 (o:Int),.string ⟨#[]⟩,.slice none 0 0,.string ⟨(argF l).toArray⟩,.slice none 0 0] 63 (0,0))∧GrIn w6 b (argL l) d (c+1)∧w6.heap[bc]?=some (.cells #[.int .i64 0,.string ⟨#[]⟩,.slice none 0 0,.string ⟨#[]⟩,.slice none 0 0] 63 (0,0))∧Gb b w w6∧bx<w6.heap.size from by
     rw[ag.out.2.1,ag.out.2.2]
     exact ⟨(ad.block bx aj.out.2.1 (by have:=aj.out; simp; omega)).trans af.out.1,aw,(ad.block bc (ZL af.out.2.2.1) (by have:=ap.out; simp; omega)).trans af.out.2.2.1,af.out.2.2.2.trans ad,Nat.lt_of_lt_of_le aj.out.2.1 ad.size⟩)
    clear aw ad au
    go_wp2_with fail
    go_meet
    exact ⟨by first | (rw[ag.out.1]; done) | (rw[ag.out.1]; exact aJ.out),aH⟩
   ·have e1:((o:Int)==2)=false:=ZQ.2 (by omega)
    have e2:((o:Int)==1)=false:=ZQ.2 (by omega)
    have e4:((o:Int)==3)=false:=ZQ.2 (by omega)
    have e5:((o:Int)==4)=true:=beq_iff_eq.2 (by omega)
    obtain ⟨H2,au⟩:∃x,x=headB l.tail:=⟨_,rfl⟩
    obtain ⟨M,hM⟩:∃x,x=H2%3:=⟨_,rfl⟩
    have a3:(H2:Int).tmod 3=(M:Int):=by rw[hM,Int.tmod_eq_emod_of_nonneg (by omega)]; exact (Int.natCast_emod _ _).symm
    have aJ:=ZH (show Value.int .i64 (wrap64 (1+(M:Int)))=Value.int .i64 (1+(M:Int)) from by rw[IntWalk.wrap64_in (1+(M:Int)) (by omega)])
    have ag:=ZH (show ((argN l:Nat):Int)=1+(M:Int)∧argL l=l.tail.tail∧argF l = [] from by
     have h9:=aE.out
     refine ⟨?_,?_,?_⟩
     ·unfold argN; rw[if_neg (by omega),hM,au,←List.drop_one]; omega
     ·unfold argL; rw[if_neg (by omega),←List.drop_one,←List.drop_one,List.drop_drop]
     ·unfold argF; rw[if_neg (by omega)])
    clear hM h2 h5 h3
    go_wp2_with fail
    refine (pnext_any af.out.2.1).mono ?_
    rintro e w6 ⟨rfl,aw,ad⟩
    rw[←au]
    have aH:=ZH (show w6.heap[bx]?=some (.cells #[.int .i64 (o:Int),.string ⟨#[]⟩,.slice none 0 0,.string ⟨(argF l).toArray⟩,.slice none 0 0] 63 (0,0))∧GrIn w6 b (argL l) d (c+1)∧w6.heap[bc]?=some (.cells #[.int .i64 0,.string ⟨#[]⟩,.slice none 0 0,.string ⟨#[]⟩,.slice none 0 0] 63 (0,0))∧Gb b w w6∧bx<w6.heap.size from by
     rw[ag.out.2.1,ag.out.2.2]
     exact ⟨(ad.block bx aj.out.2.1 (by have:=aj.out; simp; omega)).trans af.out.1,aw,(ad.block bc (ZL af.out.2.2.1) (by have:=ap.out; simp; omega)).trans af.out.2.2.1,af.out.2.2.2.trans ad,Nat.lt_of_lt_of_le aj.out.2.1 ad.size⟩)
    clear aw ad au
    go_wp2_with fail
    go_meet
    exact ⟨by first | (rw[ag.out.1]; done) | (rw[ag.out.1]; exact aJ.out),aH⟩
  case rest=>
   obtain ⟨rfl,aQ⟩:=hcut
   have ae:=aQ.out
   have bI:=ZH (argN_le l)
   obtain ⟨N,hN⟩:∃x,x=argN l:=⟨_,rfl⟩
   obtain ⟨l1,a6⟩:∃x,x=argL l:=⟨_,rfl⟩
   obtain ⟨F,hF⟩:∃s:ByteArray,s=⟨(argF l).toArray⟩:=⟨_,rfl⟩
   rw[←a6,←hF] at ae
   rw[←hN]
   obtain ⟨w6,bn⟩:∃x,x=wc:=⟨_,rfl⟩
   rw[←bn] at ae⊢
   obtain ⟨B0,hB0⟩:∃x,x=w6.heap.size:=⟨_,rfl⟩
   have ay:=ZH ae
   have aV:=ZH (show N=argN l∧l1=argL l∧F=⟨(argF l).toArray⟩∧N≤3 from ⟨hN,a6,hF,by rw[hN]; exact bI.out⟩)
   have a2:=ZH (show w6.heap.size=B0∧bx<B0∧bc<bx∧b<bc∧w.heap.size≤bc from by have h1:=ae.2.2.2.2; have h2:=aj.out; have h3:=ap.out; omega)
   have HNX:=ZH aL.out
   clear af HH ae aQ hN a6 hF bn hB0 aL bI bK aE
   go_wp2_with fail
   go_loopg [8] N (fun gk i wr=>∃(k:Nat) (av:Value),k+gk=N∧i=.int .i64 k∧Hid (wr.heap[bx]?=some (.cells #[.int .i64 (o:Int),.string ⟨#[]⟩,.slice none 0 0,.string F,av] 63 (0,0))∧ExApp wr B0 (fun g=>B0≤g) av (raws (growArgs (growE d L') k l1 (c+1)).1)∧GrIn wr b (growArgs (growE d L') k l1 (c+1)).2.1 d (growArgs (growE d L') k l1 (c+1)).2.2∧wr.heap[bc]?=some (.cells #[.int .i64 0,.string ⟨#[]⟩,.slice none 0 0,.string ⟨#[]⟩,.slice none 0 0] 63 (0,0))∧Gb b w wr∧B0≤wr.heap.size))
   case atStart=>exact ⟨0,_,by omega,rfl,ZH ⟨ay.out.1,exApp_nil _ _ _,ay.out.2.1,ay.out.2.2.1,ay.out.2.2.2.1,Nat.le_of_eq a2.out.1.symm⟩⟩
   case round=>
    obtain ⟨k,av,hk,rfl,ae⟩:=hrel
    have ae:=ae.out
    by_cases hlt:k<N
    ·have e1:((k:Int)<(N:Int))=True:=eq_true (by omega)
     have bG:=growArgs_c (g:=growE d L') (growE_c L') l1 (c+1) k
     have a0:growArgs (growE d L') (k+1) l1 (c+1)=((growArgs (growE d L') k l1 (c+1)).1++[(growE d L' (growArgs (growE d L') k l1 (c+1)).2.1 (growArgs (growE d L') k l1 (c+1)).2.2).1],(growE d L' (growArgs (growE d L') k l1 (c+1)).2.1 (growArgs (growE d L') k l1 (c+1)).2.2).2):=rfl
     obtain ⟨es,aX⟩:∃x,x=(growArgs (growE d L') k l1 (c+1)).1:=⟨_,rfl⟩
     obtain ⟨lk,bd⟩:∃x,x=(growArgs (growE d L') k l1 (c+1)).2.1:=⟨_,rfl⟩
     obtain ⟨ck,aZ⟩:∃x,x=(growArgs (growE d L') k l1 (c+1)).2.2:=⟨_,rfl⟩
     rw[←aX,←bd,←aZ] at a0
     rw[←aZ] at bG
     rw[←aX,←bd,←aZ] at ae
     have a8:es.length=k:=by rw[aX,growArgs_len]
     obtain ⟨y,hy⟩:∃y,y=growE d L' lk ck:=⟨_,rfl⟩
     rw[←hy] at a0
     obtain ⟨aa,ac,rfl,aP,be⟩:=ae.2.1.shape
     rw[raws_len,a8] at ae
     have hcb:ck+NN L'≤1000000000:=by
      have h1:=bM.out.2
      have h2:=aV.out.2.2.2
      have h3:=Nat.mul_le_mul_right (NN L') (show k+1≤3 by omega)
      rw[Nat.add_mul] at h3
      omega
     have am:=ZH ae
     have HX0:=ZH (show Go.Proofs.YtdgimcmappmjdaaGreatDoor.OneGr b d 5 lk ck y.2.1 y.2.2 (fun _=>false) wr.drew from OneGr.init (ae.2.2.1.below (ZR _ _).drew))
     have hbl:b<wr.heap.size:=ae.2.2.1.lt
     have bF:(L:Int)=(L':Int)+1:=by have:=bM.out.1; omega
     have HCL:=ZH (fun (W:World) (hW:Glob W) (h9:GrIn W b lk d ck)=>by have h:=HNX.out W hW lk ck h9 hcb; rw[←bF,←hy] at h; exact h)
     have hwl:wrap64 (L:Int)=(L:Int):=IntWalk.wrap64_in _ (by have:=HC.out; omega)
     have aF:=ZH (ZN hlt (ZN hk (ZN a0 (ZN a8 aP))))
     have HWL:=ZH hwl
     clear ae a0 bG aX bd aZ a8 hy aP be hcb hlt hk bF
     go_upto_region 18 with fail
     clear e1
     refine FlowX.wp_region_mixR (fun u v=>Gb b u v) (fun u=>Gb.refl b u) (fun _ _ _ h k=>h.more k) (GrS b) (fun _ _ h=>GrS.of h) [0,1,2,3,4,5,6] [true,true,true,true,true,true,true,false,false,false] (fun j9=>[5].contains j9) (fun i9 v w'=>match i9 with
      | 0=>v=.pointer (some ⟨bx,4,none⟩)
      | 1=>v=.slice aa k ac
      | 2=>v=.pointer (some ⟨b,0,none⟩)
      | 3=>v=.int .i64 ((L:Int)+1)
      | 4=>v=.int .i64 (L:Int)
      | 5=>∃(x0:Int) (x1:ByteArray) (x2:Option Addr) (x3 x4:Nat) (x5:ByteArray) (x6:Option Addr) (x7 x8:Nat),v=.agg #[.int .i64 x0,.string x1,.slice x2 x3 x4,.string x5,.slice x6 x7 x8]∧ExP w' (fun g=>wr.heap.size≤g) (raw y.1) (.agg #[.int .i64 x0,.string x1,.slice x2 x3 x4,.string x5,.slice x6 x7 x8])
      | _=>∃(b9:Nat) (x0:Int) (x1:ByteArray) (x2:Option Addr) (x3 x4:Nat) (x5:ByteArray) (x6:Option Addr) (x7 x8:Nat),v=.slice (some ⟨b9,0,none⟩) 1 1∧wr.heap.size≤b9∧w'.heap[b9]?=some (.cells #[.int .i64 x0,.string x1,.slice x2 x3 x4,.string x5,.slice x6 x7 x8] 63 (0,0))∧ExP w' (fun g=>wr.heap.size≤g) (raw y.1) (.agg #[.int .i64 x0,.string x1,.slice x2 x3 x4,.string x5,.slice x6 x7 x8])) (fun L9 _ w=>OneGr b d 5 lk ck y.2.1 y.2.2 L9 w) rfl rfl (by kernel_rfl) (by kernel_rfl) (by kernel_rfl) (by kernel_rfl) ?st ?hX ?hX0 ?_ ?_
     case st=>
      intro i9 v u1 u2 h hb
      match i9 with
      | 0 | 1 | 2 | 3 | 4=>exact h
      | 5=>exact by obtain ⟨x0,x1,x2,x3,x4,x5,x6,x7,x8,e,hx⟩:=(show ∃(x0:Int) (x1:ByteArray) (x2:Option Addr) (x3 x4:Nat) (x5:ByteArray) (x6:Option Addr) (x7 x8:Nat),v=.agg #[.int .i64 x0,.string x1,.slice x2 x3 x4,.string x5,.slice x6 x7 x8]∧ExP u1 (fun g=>wr.heap.size≤g) (raw y.1) (.agg #[.int .i64 x0,.string x1,.slice x2 x3 x4,.string x5,.slice x6 x7 x8]) from h); exact ⟨x0,x1,x2,x3,x4,x5,x6,x7,x8,e,hx.keep ⟨hb.1.size,fun g hg hl=>hb.1.block g hl (by simp; omega)⟩⟩
      | 6 | _+7=>exact by obtain ⟨b9,x0,x1,x2,x3,x4,x5,x6,x7,x8,e,hl9,bw,hx⟩:=(show ∃(b9:Nat) (x0:Int) (x1:ByteArray) (x2:Option Addr) (x3 x4:Nat) (x5:ByteArray) (x6:Option Addr) (x7 x8:Nat),v=.slice (some ⟨b9,0,none⟩) 1 1∧wr.heap.size≤b9∧u1.heap[b9]?=some (.cells #[.int .i64 x0,.string x1,.slice x2 x3 x4,.string x5,.slice x6 x7 x8] 63 (0,0))∧ExP u1 (fun g=>wr.heap.size≤g) (raw y.1) (.agg #[.int .i64 x0,.string x1,.slice x2 x3 x4,.string x5,.slice x6 x7 x8]) from h); exact ⟨b9,x0,x1,x2,x3,x4,x5,x6,x7,x8,e,hl9,(hb.1.block b9 (ZL bw) (by simp; omega)).trans bw,hx.keep ⟨hb.1.size,fun g hg hl=>hb.1.block g hl (by simp; omega)⟩⟩
     case hX=>exact fun L xs w L' xs' w' h he hb=>h.below (he 5 rfl).1 hb
     case hX0=>exact fun xs=>HX0.out
     refine Flow.Steps.cons (.inl ⟨rfl,FlowX.StepS.of rfl ?s0⟩) (Flow.Steps.cons (.inl ⟨rfl,FlowX.StepS.of rfl ?s1⟩) (Flow.Steps.cons (.inl ⟨rfl,FlowX.StepS.of rfl ?s2⟩) (Flow.Steps.cons (.inl ⟨rfl,FlowX.StepS.of rfl ?s3⟩) (Flow.Steps.cons (.inl ⟨rfl,FlowX.StepS.of rfl ?s4⟩) (Flow.Steps.cons (.inr ⟨rfl,FlowX.StepX.of rfl ?s5⟩) (Flow.Steps.cons (.inl ⟨rfl,FlowX.StepS.of rfl ?s6⟩) Flow.Steps.nil))))))
     case s0 | s2 | s3=>
      intro L9 xs w' hb hT aA K9 ah
      clear hT
      simp only[zFp,zAp,zLa,zLb,zLc,Nat.reduceAdd,zNz] at ah⊢
      have hw:=hb
      go_simp
      exact ah _ _ (ZR _ _) rfl
     case s1=>
      intro L9 xs w' hb hT aA K9 ah
      have h0:(xs 0)=.pointer (some ⟨bx,4,none⟩):=(hT 0 (by kernel_rfl)).2
      clear hT
      simp only[zFp,zAp,zLa,zLb,zLc,Nat.reduceAdd,zNz] at ah⊢
      have hw:=hb
      have kb:=(hb.block bx (ZL am.out.1) (by have:=a2.out; simp; omega)).trans am.out.1
      have y0:=ZI kb 4
      clear kb
      simp at y0
      (try simp only[h0] at ah)
      go_simp
      exact ah _ _ (ZR _ _) rfl
     case s4=>
      intro L9 xs w' hb hT aA K9 ah
      have h3:(xs 3)=.int .i64 ((L:Int)+1):=(hT 3 (by kernel_rfl)).2
      clear hT
      simp only[zFp,zAp,zLa,zLb,zLc,Nat.reduceAdd,zNz] at ah⊢
      have hw:=hb
      (try simp only[h3] at ah)
      go_simp
      exact ah _ _ (ZR _ _) (by first | rfl | (congr 1; exact IntWalk.i64_in _ (by have:=HC.out; omega)))
     case s5=>
      intro L9 xs w' hb hT aA hL9 K9 ah
      have h2:(xs 2)=.pointer (some ⟨b,0,none⟩):=(hT 2 (by kernel_rfl)).2
      have h4:(xs 4)=.int .i64 (L:Int):=(hT 4 (by kernel_rfl)).2
      clear hT
      simp only[zFp,zAp,zLa,zLb,zLc,Nat.reduceAdd,zNz] at ah⊢
      have hw:=hb
      (try simp only[h2] at ah)
      (try simp only[h4] at ah)
      go_simp
      go_at_call 83
      refine (HCL.out w' (HG.out.gr bk.out (am.out.2.2.2.2.1.trans ((Gb.of (ZR _ wr).drew).trans hb))) (aA.s0 hL9)).mono ?_
      rintro e w3 ⟨v3,rfl,aT,bH,aR⟩
      obtain ⟨tv9,ao9,cap9,rfl,ht9,-⟩:=id aT.out
      obtain ⟨ta9,tc9,rfl,-⟩:=ht9
      exact ah _ _ (hb.trans aR) (GrS.gr aR bH) ⟨_,_,_,_,_,_,_,_,_,rfl,aT.mono fun g hg _=>Nat.le_trans hb.size hg⟩ (OneGr.make bH)
     case s6=>
      intro L9 xs w' hb hT aA K9 ah
      have h5:∃(x0:Int) (x1:ByteArray) (x2:Option Addr) (x3 x4:Nat) (x5:ByteArray) (x6:Option Addr) (x7 x8:Nat),(xs 5)=.agg #[.int .i64 x0,.string x1,.slice x2 x3 x4,.string x5,.slice x6 x7 x8]∧ExP w' (fun g=>wr.heap.size≤g) (raw y.1) (.agg #[.int .i64 x0,.string x1,.slice x2 x3 x4,.string x5,.slice x6 x7 x8]):=(hT 5 (by kernel_rfl)).2
      clear hT
      simp only[zFp,zAp,zLa,zLb,zLc,Nat.reduceAdd,zNz] at ah⊢
      have hw:=hb
      obtain ⟨x0,x1,x2,x3,x4,x5,x6,x7,x8,e5,hx5⟩:=h5
      simp only[e5] at ah
      go_simp
      exact ah _ _ ((ZR _ _).alloc (Nat.le_refl _) _) ⟨_,x0,x1,x2,x3,x4,x5,x6,x7,x8,rfl,hb.size,ZW _ _,hx5.keep (Keep.of_below ((ZR _ _).alloc (Nat.le_refl _) _))⟩
     intro xs w' hb hT aA
     have hw:=hb
     have h1:(xs 1)=.slice aa k ac:=hT 1 (by rfl)
     have h6:∃(b9:Nat) (x0:Int) (x1:ByteArray) (x2:Option Addr) (x3 x4:Nat) (x5:ByteArray) (x6:Option Addr) (x7 x8:Nat),(xs 6)=.slice (some ⟨b9,0,none⟩) 1 1∧wr.heap.size≤b9∧w'.heap[b9]?=some (.cells #[.int .i64 x0,.string x1,.slice x2 x3 x4,.string x5,.slice x6 x7 x8] 63 (0,0))∧ExP w' (fun g=>wr.heap.size≤g) (raw y.1) (.agg #[.int .i64 x0,.string x1,.slice x2 x3 x4,.string x5,.slice x6 x7 x8]):=hT 6 (by rfl)
     clear hT
     simp only[zFp,zAp,zLa,zLb,zLc,Nat.reduceAdd,zNz,FlowR.restL]
     obtain ⟨b9,x0,x1,x2,x3,x4,x5,x6,x7,x8,e6,hl6,bJ,bC⟩:=h6
     simp only[h1,e6]
     clear h1 e6
     have bP:GrIn w' b y.2.1 d y.2.2:=aA.s1 (by rfl)
     have ai:Gb b wr w':=(Gb.of (ZR _ wr).drew).trans hb
     have al:=am.out.2.1.own
     have aK:=a2.out
     have bq:=am.out.2.1.keep (w':=w') ⟨ai.size,fun g hg hl=>ai.block g hl (by rcases hg with h | h<;>first | (simp; omega) | (have:=al g h; simp; omega))⟩
     have bh:=am.out.2.2.2.2.2
     obtain ⟨v7,w7,aS,ar,hg7,ak⟩:=append_exs bq (by rw[raws_len,aF.out.2.2.2.1]; have:=aF.out.1; have:=aV.out; simp; omega) (m:=[raw y.1]) (by simp) (x:=.slice (some ⟨b9,0,none⟩) 1 1) (one_exs bJ (P:=fun g=>B0≤g∧(Value.slice aa k ac).ownBlock≠some g) ⟨by omega,fun h=>by have h1:=am.out.2.1.own_lt _ h; omega⟩ (bC.mono fun g hg _=>⟨by omega,fun h=>by have h1:=am.out.2.1.own_lt _ h; omega⟩)) (Nat.le_trans bh ai.size) 61
     obtain ⟨a7,c7,rfl,bf,bg⟩:=ar.shape
     have bt:w'.heap[bx]?=_:=(ai.block bx (ZL am.out.1) (by simp; omega)).trans am.out.1
     have ax:=(ak.block bx aK.2.1).trans bt
     have aC:=(ak.block bc (by omega)).trans ((ai.block bc (ZL am.out.2.2.2.1) (by simp; omega)).trans am.out.2.2.2.1)
     obtain ⟨n7,bB⟩:∃x,x=(raws es++[raw y.1]).length:=⟨_,rfl⟩
     rw[←bB] at ar aS
     have z4:=ZI ax 4
     have f4:=ZF ax 4
     simp at z4
     have hu:But bx w7 (w7.setCell ⟨bx,4,none⟩ (.slice a7 n7 c7)):=(But.refl bx w7).set _ _
     have az:=ar.own
     have aO:Gb b w w7:=by
      have h1:=am.out.2.2.2.2.1.trans ai
      exact ⟨ak.os.trans h1.os,ak.tape.trans h1.tape,ak.output.trans h1.output,Nat.le_trans h1.size ak.size,fun q hq hn=>(ak.block q (by omega)).trans (h1.block q hq hn)⟩
     have HE7:=ZH (ZN (five_set4 ax (.slice a7 n7 c7)) (ZN (ar.keep (w':=w7.setCell ⟨bx,4,none⟩ (.slice a7 n7 c7)) ⟨hu.size,fun g hg hl=>hu.block g (by rcases hg with h | h<;>first | omega | (have:=az g h; omega)) hl⟩) (ZN ((bP.kept fun g hg=>ak.block g (by omega)).far (by omega) hu) (ZN ((hu.block bc (by omega) (ZL aC)).trans aC) (ZN (gb_box aO hu rfl rfl rfl (by omega)) (show B0≤(w7.setCell ⟨bx,4,none⟩ (.slice a7 n7 c7)).heap.size from Nat.le_trans (Nat.le_trans bh ai.size) (Nat.le_trans ak.size hu.size)))))))
     have bv:=ZH (show raws (growArgs (growE d L') (k+1) l1 (c+1)).1=raws es++[raw y.1]∧(growArgs (growE d L') (k+1) l1 (c+1)).2=y.2 from by rw[aF.out.2.2.1]; exact ⟨by rw[raws_map,raws_map,List.map_append]; rfl,rfl⟩)
     clear bP ai al aK bq bh ar hg7 ak bt ax aC hu az aO aA hb bJ bC hl6 bB bf bg
     go_wp2_with (at_builtin; refine wpList_append_run _ rfl _ _ 61 rfl _ _ rfl rfl aS ?_)
     go_roundg (N-(k+1))
     case measure=>have h1:=aF.out.1; have h2:=aF.out.2.1; omega
     case rel=>exact ⟨k+1,_,by have:=aF.out.1; omega,by first | (congr 1; done) | (congr 1; exact IntWalk.wrap64_in ((k:Int)+1) (by have h1:=aF.out.1; have h2:=aV.out; omega)),ZH (by rw[bv.out.1,bv.out.2]; exact HE7.out)⟩
    ·have e1:((k:Int)<(N:Int))=False:=eq_false (by omega)
     obtain rfl:k=N:=by omega
     obtain ⟨aa,ac,rfl,-,-⟩:=ae.2.1.shape
     obtain ⟨an,bz⟩:∃x,x=(raws (growArgs (growE d L') k l1 (c+1)).1).length:=⟨_,rfl⟩
     rw[←bz] at ae
     obtain ⟨z0,z1,z2,z3,z4⟩:=cells5 (ZR _ wr) ae.1
     obtain ⟨y0,y1,y2,y3,y4⟩:=cells5 (ZR _ wr) ae.2.2.2.1
     have f0:=ZF ae.2.2.2.1 0
     have f1:=ZF ae.2.2.2.1 1
     have f2:=ZF ae.2.2.2.1 2
     have f3:=ZF ae.2.2.2.1 3
     have f4:=ZF ae.2.2.2.1 4
     have hu:But bc wr (((((wr.setCell ⟨bc,0,none⟩ (.int .i64 (o:Int))).setCell ⟨bc,1,none⟩ (.string ⟨#[]⟩)).setCell ⟨bc,2,none⟩ (.slice none 0 0)).setCell ⟨bc,3,none⟩ (.string F)).setCell ⟨bc,4,none⟩ (.slice aa an ac)):=(((((But.refl bc wr).set _ _).set _ _).set _ _).set _ _).set _ _
     have hr:=ae.2.1.reads
     have al:=ae.2.1.own
     have aK:=a2.out
     have aT:ExsP (((((wr.setCell ⟨bc,0,none⟩ (.int .i64 (o:Int))).setCell ⟨bc,1,none⟩ (.string ⟨#[]⟩)).setCell ⟨bc,2,none⟩ (.slice none 0 0)).setCell ⟨bc,3,none⟩ (.string F)).setCell ⟨bc,4,none⟩ (.slice aa an ac)) (fun g=>w.heap.size≤g) (.slice aa an ac) (raws (growArgs (growE d L') k l1 (c+1)).1):=(hr.keep ⟨hu.size,fun g hg hl=>hu.block g (by rcases hg with h | h<;>first | omega | (have:=al g h; omega)) hl⟩).mono fun g hg _=>by
      rcases hg with h | h
      ·omega
      ·have:=al g h; omega
     have HF:=ZH (ZN aT (ZN (ae.2.2.1.far aK.2.2.2.1 hu) (gb_box ae.2.2.2.2.1 hu rfl rfl rfl aK.2.2.2.2)))
     have aq:=ZH aV.out
     clear ae hu hr al aK aT bz hlt hk
     go_wp2_with fail
     refine bodyPost_ret (v:=.agg #[.int .i64 (o:Int),.string ⟨#[]⟩,.slice none 0 0,.string F,.slice aa an ac]) (by simp[results,Tryz.results83,go_sem,y0,y1,y2,y3,y4]) rfl ⟨_,rfl,?_,?_,HF.out.2.2⟩
     ·rw[HE.out.1,←aq.out.1,←aq.out.2.1]
      have h9:=ExP.of (x:=.mk (o:Int) [] [] (argF l) (raws (growArgs (growE d L') k l1 (c+1)).1)) (termsP_none _ _) HF.out.1
      simp only[Ex.op,Ex.c,Ex.f,←aq.out.2.2.1] at h9
      exact h9
     ·rw[HE.out.2,←aq.out.1,←aq.out.2.1]
      exact HF.out.2.1
theorem pexpr_any {d:Nat} (hd0:0<d) (hd:d≤1000):∀(L:Nat),L≤1000→∀{w:World} (_:Glob w) {b:Nat} {l:List Int} {c:Nat} (_:GrIn w b l d c) (_:c+NN L≤1000000000),Calls Tryz.prog 83 #[.pointer (some ⟨b,0,none⟩),.int .i64 ((L:Int)+1)] w (GrPost w b d (growE d L l c)):=by
 intro L
 induction L with
 | zero=>exact fun hL w hg b l c h aa=>pexpr_step hd0 hd hL (fun L' h=>by omega) hg h aa
 | succ L ih=>
  intro hL w hg b l c h aa
  refine pexpr_step hd0 hd hL (fun L' h=>?_) hg h aa
  obtain rfl:L=L':=by omega
  exact ih (by omega)
theorem pGrow_any {w:World} (hg:Glob w) {v:Value} {l:List Int} (hp:PartsIn w v l) {d:Nat} (hd0:0<d) (hd:d≤1000):Calls Tryz.prog 32 #[v,.int .i64 (d:Int)] w fun e w'=>∃v',e=.returned v'∧ExP w' (fun g=>w.heap.size≤g) (raw (growE d 4 (l.take 60) 0).1) v'∧Below w.heap.size w w':=by
 have HP:=ZH hp
 obtain ⟨ao,c,rfl,h1,h2,h3⟩:=hp
 obtain ⟨n,hn⟩:∃n,n=l.length:=⟨_,rfl⟩
 obtain ⟨wa,bc,au,az,ac,ka⟩:=new_box w #[.int .i64 0,.string ⟨#[]⟩,.slice none 0 0,.string ⟨#[]⟩,.slice none 0 0] 63
 obtain ⟨m,hm⟩:∃m,m=min n 60:=⟨_,rfl⟩
 obtain ⟨wb,bg,ar,ap,af,kb⟩:=new_box wa #[.slice ao m c,.int .i64 (d:Int),.int .i64 0] 53
 have ai:(l.take 60).length=m:=by rw[List.length_take,hm,hn]; omega
 have aB:GrIn wb bg (l.take 60) d 0:=by
  refine ⟨ao,c,by rw[ai]; exact kb,by omega,h2,fun h0=>?_⟩
  obtain ⟨g,o,e,hg,hc⟩:=h3 (by omega)
  refine ⟨g,o,e,by rw[ap]; exact Nat.lt_of_lt_of_le hg ac.size,fun j hj=>?_⟩
  have h9:=hc j (by omega)
  have e9:(l.take 60).getD j 0=l.getD j 0:=by rw[List.getD_eq_getElem?_getD,List.getElem?_take,if_pos (by omega),←List.getD_eq_getElem?_getD]
  rw[e9]
  exact ⟨ZJ af (ZJ ac h9.1),h9.2⟩
 have ah:=pexpr_any hd0 hd 4 (by omega) (hg.below (ac.trans (af.mono ac.size))) aB (by decide)
 rw[show (((4:Nat):Int)+1)=5 from rfl] at ah
 unfold GrPost at ah
 have HPE:=ZH ah
 have HB:=ZH (ZN ac (ZN af (show w.heap.size≤bc∧bc<bg∧wa.heap.size≤bg from by have:=ZL ka; omega)))
 have am:=ZH ((af.block bc (ZL ka)).trans ka)
 have HW:=ZH (ZN au (ZN az (ZN ar ap)))
 have hmi:min (n:Int) 60=(m:Int):=by omega
 have hcap:m≤c∧c≤9223372036854775807:=⟨by omega,h2⟩
 have ae:n≤c:=by omega
 have hm0:(0:Int)≤(m:Int):=by omega
 have hm1:(m:Int)≤(c:Int):=by omega
 rw[←hn]
 clear au az ac ka ar ap af kb aB ah h1 h2 h3 hn hm ai hg hd0 hd
 go_enter Tryz.func32,Tryz.ntmps32
 go_upto_region 1 with fail
 rw[←HW.out.1,←HW.out.2.1]
 go_upto_region 2 with fail
 rw[←HW.out.2.2.1,←HW.out.2.2.2]
 clear HW hmi ae hm0 hm1
 go_wp2_with fail
 refine HPE.out.mono ?_
 rintro e w3 ⟨v,rfl,aj,-,an⟩
 obtain ⟨tv9,ag,aa,rfl,ht9,-⟩:=id aj.out
 obtain ⟨al,ak,rfl,-⟩:=ht9
 obtain ⟨x0,ay⟩:∃x,x=(raw (growE d 4 (l.take 60) 0).1).op:=⟨_,rfl⟩
 obtain ⟨x1,aw⟩:∃x:ByteArray,x=⟨(raw (growE d 4 (l.take 60) 0).1).c.toArray⟩:=⟨_,rfl⟩
 obtain ⟨x3,av⟩:∃x,x=(raw (growE d 4 (l.take 60) 0).1).t.length:=⟨_,rfl⟩
 obtain ⟨x5,aA⟩:∃x:ByteArray,x=⟨(raw (growE d 4 (l.take 60) 0).1).f.toArray⟩:=⟨_,rfl⟩
 obtain ⟨x7,ax⟩:∃x,x=(raw (growE d 4 (l.take 60) 0).1).a.length:=⟨_,rfl⟩
 rw[←ay,←aw,←av,←aA,←ax] at aj⊢
 have kc:=(an.block bc (ZL am.out) (by have:=HB.out.2.2; simp; omega)).trans am.out
 obtain ⟨y0,y1,y2,y3,y4⟩:=cells5 (ZR _ w3) kc
 have f0:=ZF kc 0
 have f1:=ZF kc 1
 have f2:=ZF kc 2
 have f3:=ZF kc 3
 have f4:=ZF kc 4
 have hu:But bc w3 (((((w3.setCell ⟨bc,0,none⟩ (.int .i64 x0)).setCell ⟨bc,1,none⟩ (.string x1)).setCell ⟨bc,2,none⟩ (.slice al x3 ak)).setCell ⟨bc,3,none⟩ (.string x5)).setCell ⟨bc,4,none⟩ (.slice ag x7 aa)):=(((((But.refl bc w3).set _ _).set _ _).set _ _).set _ _).set _ _
 have ai:=ZL am.out
 have aq:Below w.heap.size w w3:=Gb.below (HB.out.1.trans (HB.out.2.1.mono HB.out.1.size)) an (by have:=HB.out; omega)
 have ad:=HB.out.2.2.1
 have HF:=ZH (ZN (show ExP (((((w3.setCell ⟨bc,0,none⟩ (.int .i64 x0)).setCell ⟨bc,1,none⟩ (.string x1)).setCell ⟨bc,2,none⟩ (.slice al x3 ak)).setCell ⟨bc,3,none⟩ (.string x5)).setCell ⟨bc,4,none⟩ (.slice ag x7 aa)) (fun g=>w.heap.size≤g) (raw (growE d 4 (l.take 60) 0).1) _ from (aj.keep ⟨hu.size,fun g hg hl=>hu.block g (by omega) hl⟩).mono fun g hg _=>by have:=HB.out.2.2; omega) (show Below w.heap.size w (((((w3.setCell ⟨bc,0,none⟩ (.int .i64 x0)).setCell ⟨bc,1,none⟩ (.string x1)).setCell ⟨bc,2,none⟩ (.slice al x3 ak)).setCell ⟨bc,3,none⟩ (.string x5)).setCell ⟨bc,4,none⟩ (.slice ag x7 aa)) from ((((aq.setCell (p:=⟨bc,0,none⟩) ad _).setCell (p:=⟨bc,1,none⟩) ad _).setCell (p:=⟨bc,2,none⟩) ad _).setCell (p:=⟨bc,3,none⟩) ad _).setCell (p:=⟨bc,4,none⟩) ad _))
 clear hu ai aq ad aj an kc ay aw av aA ax
 go_wp2_with fail
 exact bodyPost_ret (v:=.agg #[.int .i64 x0,.string x1,.slice al x3 ak,.string x5,.slice ag x7 aa]) (by simp[results,Tryz.results32,go_sem,y0,y1,y2,y3,y4]) rfl ⟨_,rfl,HF.out.1,HF.out.2⟩
end Go.Proofs.YtdgimcmappmjdaaGreatDoor
