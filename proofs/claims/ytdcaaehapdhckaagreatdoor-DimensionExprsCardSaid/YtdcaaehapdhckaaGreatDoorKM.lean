/- Worlds in which all cells stay as they are, though maps may turn. -/
import Derived.Test.YtdcaaehapdhckaaGreatDoorKH
import Derived.Test.YtdcaaehapdhckaaGreatDoorFlow2M
set_option linter.unusedSimpArgs false
set_option linter.unusedVariables false
set_option maxRecDepth 100000
namespace Go.Proofs.YtdcaaehapdhckaaGreatDoor
open Go.RowKit Go.Num Go.Flow Go.Maps Go.WideMaps
set_option maxHeartbeats 4000000

structure Stays (w w':World):Prop where
 size:w.heap.size≤w'.heap.size
 block:∀(k:Nat) (cs:Array Value) (t:TypeId) (r:Nat×Nat),w.heap[k]?=some (Obj.cells cs t r)→w'.heap[k]?=some (Obj.cells cs t r)
theorem Stays.refl (w:World):Stays w w:=⟨Nat.le_refl _,fun _ _ _ _ h=>h⟩
theorem Stays.trans {a b c:World} (h:Stays a b) (k:Stays b c):Stays a c:=⟨Nat.le_trans h.size k.size,fun i cs t r e=>k.block i cs t r (h.block i cs t r e)⟩
theorem Stays.of_below {w w':World} (h:Below w.heap.size w w'):Stays w w':=⟨h.size,fun k cs t r e=>(h.block k (by
 rcases Nat.lt_or_ge k w.heap.size with h1 | h1
 ·exact h1
 ·rw[Array.getElem?_eq_none h1] at e; cases e)).trans e⟩
theorem Stays.of_map {w w':World} {b:Nat} {es:Array MapEntry} {clock:Nat} (hm:w.heap[b]?=some (.map es clock)) (h:w.grownBy w' (some b)):Stays w w':=⟨h.size,fun k cs t r e=>by
 have hlt:k<w.heap.size:=by
  rcases Nat.lt_or_ge k w.heap.size with h1 | h1
  ·exact h1
  ·rw[Array.getElem?_eq_none h1] at e; cases e
 refine (h.block k hlt fun e2=>?_).trans e
 have e3:k=b:=Option.some.inj e2
 rw[e3,hm] at e
 cases e⟩
theorem Stays.cell {w w':World} (h:Stays w w') {p:Addr} {v:Value} (hc:w.cell? p=some v):w'.cell? p=some v:=by
 cases hb:w.heap[p.block]? with
 | none=>unfold World.cell? at hc; rw[hb] at hc; cases hc
 | some o=>
  cases o with
  | cells cs t r=>
   have h1:=h.block _ _ _ _ hb
   unfold World.cell? at *
   rw[hb] at hc
   rw[h1]
   exact hc
  | _=>unfold World.cell? at hc; rw[hb] at hc; cases hc
theorem MagIn.stays {w w':World} {v:Value} {l:List Nat} (h:MagIn w v l) (hs:Stays w w'):MagIn w' v l:=by
 obtain ⟨ao,c,e,h1,h2,h3,h4⟩:=h
 refine ⟨ao,c,e,h1,h2,h3,fun h0=>?_⟩
 obtain ⟨b,off,e2,hlt,hc⟩:=h4 h0
 exact ⟨b,off,e2,Nat.lt_of_lt_of_le hlt hs.size,fun j hj=>hs.cell (hc j hj)⟩
theorem IntIn.stays {w w':World} {v:Value} {z:Int} {k:Nat} (h:IntIn w v z k) (hs:Stays w w'):IntIn w' v z k:=by
 obtain ⟨neg,ms,l,e,h1,h2⟩:=h
 exact ⟨neg,ms,l,e,h1.stays hs,h2⟩
theorem RatIn.stays {w w':World} {v:Value} {p q:Int} {k:Nat} (h:RatIn w v p q k) (hs:Stays w w'):RatIn w' v p q k:=by
 obtain ⟨n1,m1,n2,m2,e,h1,h2,h3⟩:=h
 exact ⟨n1,m1,n2,m2,e,h1.stays hs,h2.stays hs,h3⟩
theorem RtIn.stays {w w':World} {v:Value} {r:Rat} {k:Nat} (h:RtIn w v r k) (hs:Stays w w'):RtIn w' v r k:=by
 obtain ⟨q,h1,h2⟩:=h
 exact ⟨q,h1.stays hs,h2⟩
theorem Glob.stays {w w':World} (h:Glob w) (hs:Stays w w'):Glob w':=by
 have ht:=h.tab
 refine ⟨?_,?_⟩
 ·unfold Lib.TabIs World.var? at *
  cases hg:Tryz.prog.globalNamed "internal/strconv.uint64pow10" with
  | none=>rw[hg] at ht; cases ht
  | some g=>
   rw[hg] at ht
   simp only[Option.bind_some] at ht⊢
   cases hb:w.heap[g]? with
   | none=>rw[hb] at ht; cases ht
   | some o=>
    cases o with
    | cells cs t r=>rw[hs.block _ _ _ _ hb]; rw[hb] at ht; exact ht
    | _=>rw[hb] at ht; cases ht
 ·obtain ⟨m,hm⟩:=h.maxl
  exact ⟨m,hs.cell hm⟩
theorem ownsRow_stays {w w':World} {B:Nat} {t:TypeId} {k n:Nat} {v:Value} {l:List Value} (h:w.ownsRow B t k v n l) (hs:Stays w w'):w'.ownsRow B t k v n l:=by
 rcases h.2 with h1 | ⟨g,cap,cur,h1,h2,h3,h4⟩
 ·exact ⟨h.1,.inl h1⟩
 ·exact ⟨h.1,.inr ⟨g,cap,cur,h1,h2,hs.block _ _ _ _ h3,h4⟩⟩
theorem RMapIn.isMap {w:World} {b n K:Nat} {m:Int→Option Rat} (h:RMapIn w b n K m):∃es clock,w.heap[b]?=some (.map es clock):=by
 obtain ⟨D,⟨es,clock,h1,-⟩,-⟩:=h
 exact ⟨es,clock,h1⟩
theorem RMapIn.lt {w:World} {b n K:Nat} {m:Int→Option Rat} (h:RMapIn w b n K m):b<w.heap.size:=by
 obtain ⟨es,clock,h1⟩:=h.isMap
 rcases Nat.lt_or_ge b w.heap.size with h | h
 ·exact h
 ·rw[Array.getElem?_eq_none h] at h1; cases h1
theorem RMapIn.more {w:World} {b n K K':Nat} {m:Int→Option Rat} (h:RMapIn w b n K m) (hK:K≤K'):RMapIn w b n K' m:=by
 obtain ⟨D,h1,h2⟩:=h
 refine ⟨D,h1,fun i=>?_⟩
 have h3:=h2 i
 cases hm:m i with
 | none=>rw[hm] at h3; exact h3
 | some r=>
  rw[hm] at h3
  obtain ⟨h4,v,h5,h6⟩:=h3
  exact ⟨h4,v,h5,h6.more hK⟩
theorem RMapIn.mono {w:World} {b n n' K:Nat} {m:Int→Option Rat} (h:RMapIn w b n K m) (hn:n≤n'):RMapIn w b n' K m:=by
 obtain ⟨D,h1,h2⟩:=h
 exact ⟨D,h1.mono hn,h2⟩
theorem RMapIn.look {w:World} {b n K:Nat} {m:Int→Option Rat} (h:RMapIn w b n K m) {i:Int} (h0:-9223372036854775808≤i) (h1:i≤9223372036854775807) :
  ∃v,(Instr.lookup 81 (.map (some b)) (.int .i64 i) false).run Tryz.prog w=.ok v w∧RtIn w v ((m i).getD 0) K:=by
 obtain ⟨D,hown,hD⟩:=h
 obtain ⟨v,ps,hrun,hv⟩:=World.ownsMap.lookup hown (int_keyed Tryz.underlying3) Tryz.underlying81 (z:=zeroRat) (zeroRat_run _) (zd:=.held zeroRat) (zp:=[]) rfl (key_int h0 h1)
 refine ⟨v,hrun,?_⟩
 unfold asIs at hv
 simp only[Option.some.injEq,Prod.mk.injEq] at hv
 have h:=hD i
 have h2:=hv.1
 cases hm:m i with
 | none=>
  rw[hm] at h
  rw[Maps.atKey_of_not_has h] at h2
  cases h2
  exact zero_rt w K
 | some r=>
  rw[hm] at h
  obtain ⟨h3,u,h4,h5⟩:=h
  rw[h4] at h2
  cases h2
  exact h5
theorem RMapIn.store {w:World} {b n K:Nat} {m:Int→Option Rat} (h:RMapIn w b n K m) (hn:n<maxLen) {i:Int} (h0:-9223372036854775808≤i) (h1:i≤9223372036854775807) {v:Value} {r:Rat} (hv:RtIn w v r K) :
  ∃w',(Instr.mapUpdate 81 (.map (some b)) (.int .i64 i) v).run Tryz.prog w=.ok () w'∧RMapIn w' b (n+1) K (fun j=>if j=i then some r else m j)∧w.grownBy w' (some b)∧Stays w w':=by
 obtain ⟨es,clock,hmap⟩:=h.isMap
 obtain ⟨D,hown,hD⟩:=id h
 obtain ⟨w',hrun,hown',hturn⟩:=World.ownsMap.store hown (int_keyed Tryz.underlying3) Tryz.underlying81 hn (key_int h0 h1) (show asIs v=some (.held v,[]) from rfl)
 have hg:=hturn.grown
 have hs:=Stays.of_map hmap hg
 refine ⟨w',hrun,?_,hg,hs⟩
 have hm2:=World.ownsMap.isMap hown
 refine ⟨D.put (.int .i64 i) (.held v),hown',fun j=>?_⟩
 have hk:WideAt.IsKeyLit (.int .i64 i):=by trivial
 by_cases hj:j=i
 ·subst hj
  simp only[if_pos]
  exact ⟨Maps.has_put_same hm2 hk _,v,fun z=>Maps.atKey_put_same hm2 hk _ z,hv.stays hs⟩
 ·simp only[if_neg hj]
  have hne:(Lit.int .i64 j)≠.int .i64 i:=fun h=>hj (by cases h; rfl)
  have h3:=hD j
  cases hmj:m j with
  | none=>
   rw[hmj] at h3
   exact (Maps.has_put_other hne _).trans h3
  | some s=>
   rw[hmj] at h3
   obtain ⟨h4,u,h5,h6⟩:=h3
   exact ⟨(Maps.has_put_other hne _).trans h4,u,fun z=>(Maps.atKey_put_other hne _ z).trans (h5 z),h6.stays hs⟩
theorem row1_reads {w:World} {B:Nat} {t:TypeId} {v:Value} {l:List Value} {n:Nat} (h:w.ownsRow B t 1 v n l):∃ao c,v=.slice ao n c∧n≤c∧c≤maxLen∧n=l.length∧(0<n→∃g,ao=some ⟨g,0,none⟩∧g<w.heap.size∧∀j u,l[j]?=some u→w.cell? ⟨g,j,none⟩=some u):=by
 have hl:l.length=n:=by have:=h.1; omega
 rcases h.2 with ⟨rfl,h0⟩ | ⟨g,cap,cur,rfl,hb,hg,hc1,hc2,hcz,hct⟩
 ·exact ⟨none,0,by rw[h0],by omega,by unfold maxLen; omega,hl.symm,fun h1=>by omega⟩
 ·refine ⟨_,_,rfl,hc1,hc2,hl.symm,fun _=>⟨g,rfl,ZL hg,fun j u hu=>?_⟩⟩
  rw[←hct,List.getElem?_take] at hu
  split at hu
  ·rw[ZI hg,←hu,Array.getElem?_toList]
  ·cases hu
theorem grown_below {w a b:World} {r:Option Nat} (h:w.grownBy a r) (hb:Below a.heap.size a b):w.grownBy b r:=
 ⟨hb.os.trans h.os,hb.tape.trans h.tape,hb.output.trans h.output,Nat.le_trans h.size hb.size,fun k hk hne=>(hb.block k (Nat.lt_of_lt_of_le hk h.size)).trans (h.block k hk hne)⟩
theorem grown_refl (w:World) (r:Option Nat):w.grownBy w r:=⟨rfl,rfl,rfl,Nat.le_refl _,fun _ _ _=>rfl⟩
def Turned (b:Nat) (w w':World):Prop:=w.grownBy w' (some b)∧Stays w w'
theorem Turned.refl (b:Nat) (w:World):Turned b w w:=⟨grown_refl _ _,Stays.refl _⟩
theorem Turned.below {b:Nat} {w a c:World} (h:Turned b w a) (hb:Below a.heap.size a c):Turned b w c:=⟨grown_below h.1 hb,h.2.trans (Stays.of_below hb)⟩
theorem Turned.turn {b:Nat} {w a c:World} (h:Turned b w a) (k:Turned b a c):Turned b w c:=⟨h.1.trans k.1,h.2.trans k.2⟩
end Go.Proofs.YtdcaaehapdhckaaGreatDoor
set_option maxRecDepth 100000
namespace Go.Proofs.YtdcaaehapdhckaaGreatDoor
open Go.RowKit Go.Num Go.Flow
set_option maxHeartbeats 4000000

theorem row_below {w w':World} {B:Nat} {t:TypeId} {k n:Nat} {v:Value} {l:List Value} (h:w.ownsRow B t k v n l) (hb:Below w.heap.size w w'):w'.ownsRow B t k v n l:=ownsRow_stays h (Stays.of_below hb)
theorem row_off {w:World} {B:Nat} {t:TypeId} {k n:Nat} {v:Value} {l:List Value} (h:w.ownsRow B t k v n l) {b:Nat} {cs:Array Value} {t':TypeId} (hk:w.heap[b]?=some (.cells cs t' (0,0))) (ht:t'≠t):∀g,v.ownBlock=some g→g≠b:=fun g e=>by
 rcases h.2 with ⟨h1,-⟩ | ⟨g',cap,cur,h1,-,h3,-⟩
 ·rw[h1] at e; simp[Value.ownBlock] at e
 ·rw[h1] at e
  simp[Value.ownBlock] at e
  subst e
  rintro rfl
  rw[hk] at h3
  simp at h3
  exact ht h3.2
theorem row_shape {w:World} {B:Nat} {t:TypeId} {k n:Nat} {v:Value} {l:List Value} (h:w.ownsRow B t k v n l):∃ao c,v=.slice ao n c∧n≤c∧c≤maxLen:=by
 rcases h.2 with ⟨h1,h0⟩ | ⟨g,cap,cur,h1,-,-,h4,h5,-⟩
 ·exact ⟨none,0,by rw[h0]; exact h1,by omega,by unfold maxLen; omega⟩
 ·exact ⟨_,_,h1,h4,h5⟩
theorem row_cells {w:World} {B:Nat} {t:TypeId} {k n:Nat} {v:Value} {l:List Value} (h:w.ownsRow B t k v n l):∃ao c,v=.slice ao n c∧n≤c∧c≤maxLen∧(0<n→∃g,ao=some ⟨g,0,none⟩∧g<w.heap.size∧∀j u,l[j]?=some u→w.cell? ⟨g,j,none⟩=some u):=by
 rcases h.2 with ⟨rfl,h0⟩ | ⟨g,cap,cur,rfl,hb,hg,hc1,hc2,hcz,hct⟩
 ·exact ⟨none,0,by rw[h0],by omega,by unfold maxLen; omega,fun h1=>by omega⟩
 ·refine ⟨_,_,rfl,hc1,hc2,fun _=>⟨g,rfl,ZL hg,fun j u hu=>?_⟩⟩
  rw[←hct,List.getElem?_take] at hu
  split at hu
  ·rw[ZI hg,←hu,Array.getElem?_toList]
  ·cases hu
theorem row_lt {w:World} {B:Nat} {t:TypeId} {k n:Nat} {v:Value} {l:List Value} (h:w.ownsRow B t k v n l):∀q,v.ownBlock=some q→B≤q∧q<w.heap.size:=fun q e=>World.ownsRow.lt h q e
theorem flat_at {α:Type} (f:α→List Value) (k:Nat) (hf:∀a,(f a).length=k):∀(l:List α) (j:Nat) (hj:j<l.length) (r:Nat),r<k→(l.flatMap f)[j*k+r]?=(f l[j])[r]?
 | [],j,hj,_,_=>by simp at hj
 | a::l,0,hj,r,hr=>by
  rw[List.flatMap_cons,Nat.zero_mul,Nat.zero_add,List.getElem?_append_left (by rw[hf]; exact hr)]
  rfl
 | a::l,j+1,hj,r,hr=>by
  rw[List.flatMap_cons,List.getElem?_append_right (by rw[hf,Nat.add_mul,Nat.one_mul]; omega),hf]
  have:=flat_at f k hf l j (by simpa using hj) r hr
  rw[show (j+1)*k+r-k=j*k+r by rw[Nat.add_mul,Nat.one_mul]; omega]
  exact this
end Go.Proofs.YtdcaaehapdhckaaGreatDoor
set_option maxRecDepth 100000
namespace Go.Proofs.YtdcaaehapdhckaaGreatDoor
open Go.RowKit Go.Num Go.Flow Go.Maps Go.WideMaps
set_option maxHeartbeats 4000000

def sumTerms (m:Int→Option Rat):Nat→List (Nat×List UInt8)
 | 0=>[]
 | k+1=>sumTerms m k++(match m k with | some r=>if r.num=0 then [] else [(k,numText r)] | none=>[])
def termCells (l:List (Nat×List UInt8)):List Value:=l.flatMap fun p=>[.int .i64 (p.1:Int),.string ⟨p.2.toArray⟩]
def TermRow (w:World) (B:Nat) (v:Value) (l:List (Nat×List UInt8)):Prop:=w.ownsRow B 85 2 v l.length (termCells l)
theorem TermRow.below {w w':World} {B:Nat} {v:Value} {l:List (Nat×List UInt8)} (h:TermRow w B v l) (hb:Below w.heap.size w w'):TermRow w' B v l:=by
 rcases h.2 with h1 | ⟨g,cap,cur,h1,h2,h3,h4⟩
 ·exact ⟨h.1,.inl h1⟩
 ·exact ⟨h.1,.inr ⟨g,cap,cur,h1,h2,(hb.block g (ZL h3)).trans h3,h4⟩⟩
theorem TermRow.snoc {w:World} {B:Nat} {v:Value} {l:List (Nat×List UInt8)} {k:Nat} {s:List UInt8} (h:w.ownsRow B 85 2 v (l.length+1) (termCells l++[.int .i64 (k:Int),.string ⟨s.toArray⟩])):TermRow w B v (l++[(k,s)]):=by
 unfold TermRow termCells
 rw[List.length_append,List.flatMap_append]
 exact h
theorem TermRow.set {w:World} {B:Nat} {v:Value} {l:List (Nat×List UInt8)} (h:TermRow w B v l) {b:Nat} (hb:b<B) (i:Nat) (u:Value):TermRow (w.setCell ⟨b,i,none⟩ u) B v l:=by
 rcases h.2 with h1 | ⟨g,cap,cur,h1,h2,h3,h4⟩
 ·exact ⟨h.1,.inl h1⟩
 ·exact ⟨h.1,.inr ⟨g,cap,cur,h1,h2,(Below.heap_setCell _ _ _ _ (show g≠b by omega)).trans h3,h4⟩⟩
theorem TermRow.off {w:World} {B:Nat} {v:Value} {l:List (Nat×List UInt8)} (h:TermRow w B v l) {b:Nat} {cs:Array Value} {t:TypeId} (hk:w.heap[b]?=some (.cells cs t (0,0))) (ht:t≠85):∀g,v.ownBlock=some g→g≠b:=fun g e=>by
 rcases h.2 with ⟨h1,-⟩ | ⟨g',cap,cur,h1,-,h3,-⟩
 ·rw[h1] at e; simp[Value.ownBlock] at e
 ·rw[h1] at e
  simp[Value.ownBlock] at e
  subst e
  rintro rfl
  rw[hk] at h3
  simp at h3
  exact ht h3.2
theorem TermRow.setNe {w:World} {B:Nat} {v:Value} {l:List (Nat×List UInt8)} (h:TermRow w B v l) {b:Nat} (hb:∀g,v.ownBlock=some g→g≠b) (i:Nat) (u:Value):TermRow (w.setCell ⟨b,i,none⟩ u) B v l:=by
 rcases h.2 with h1 | ⟨g,cap,cur,h1,h2,h3,h4⟩
 ·exact ⟨h.1,.inl h1⟩
 ·exact ⟨h.1,.inr ⟨g,cap,cur,h1,h2,(Below.heap_setCell _ _ _ _ (hb g (by rw[h1]; rfl))).trans h3,h4⟩⟩
theorem two_set1 {w:World} {b:Nat} {x y:Value} {t:TypeId} (h:w.heap[b]?=some (.cells #[x,y] t (0,0))) (u:Value):(w.setCell ⟨b,1,none⟩ u).heap[b]?=some (.cells #[x,u] t (0,0)):=by
 have hlt:=ZL h
 have h2:w.heap[b]=.cells #[x,y] t (0,0):=by
  rw[Array.getElem?_eq_getElem hlt] at h
  exact Option.some.inj h
 simp[World.setCell,Array.getElem?_modify,h]
theorem TermRow.shape {w:World} {B:Nat} {v:Value} {l:List (Nat×List UInt8)} (h:TermRow w B v l):∃ao n c,v=.slice ao n c:=by
 rcases h.2 with ⟨h1,-⟩ | ⟨g,cap,cur,h1,-⟩
 ·exact ⟨_,_,_,h1⟩
 ·exact ⟨_,_,_,h1⟩
theorem terms_len (m:Int→Option Rat):∀k,(sumTerms m k).length≤k
 | 0=>Nat.le_refl _
 | k+1=>by
  have h:=terms_len m k
  rw[sumTerms,List.length_append]
  split
  ·split<;>simp<;>omega
  ·simp; omega
theorem infoTerm : (Tryz.prog.info? 85).map (fun i=>(i.zero,i.size,i.bytes))=some (some (.agg #[.int .i64 0,.string ⟨#[]⟩]),2,24):=by kernel_rfl
def FormIn (w:World) (B:Nat) (v:Value) (c:List UInt8) (l:List (Nat×List UInt8)):Prop:=∃tv,v=.agg #[.string ⟨c.toArray⟩,tv]∧TermRow w B tv l
def zeroForm : Value:=.agg #[.string ⟨#[]⟩,.slice none 0 0]
theorem zero_form (w:World) (B:Nat):FormIn w B zeroForm [] []:=⟨_,rfl,World.ownsRow_nil _ _ _ _⟩
def TermsIn (w:World) (v:Value) (l:List (Nat×List UInt8)):Prop:=∃ao c,v=.slice ao l.length c∧l.length≤c∧c≤maxLen∧(0<l.length→∃g o,ao=some ⟨g,o,none⟩∧g<w.heap.size∧∀j,j<l.length→w.cell? ⟨g,o+j*2,none⟩=some (.int .i64 ((l.getD j (0,[])).1:Int))∧w.cell? ⟨g,o+j*2+1,none⟩=some (.string ⟨(l.getD j (0,[])).2.toArray⟩))
theorem TermsIn.below {w w':World} {v:Value} {l:List (Nat×List UInt8)} (h:TermsIn w v l) (hb:Below w.heap.size w w'):TermsIn w' v l:=by
 obtain ⟨ao,c,e,h1,h2,h3⟩:=h
 refine ⟨ao,c,e,h1,h2,fun h0=>?_⟩
 obtain ⟨g,o,e,hl,hc⟩:=h3 h0
 exact ⟨g,o,e,Nat.lt_of_lt_of_le hl hb.size,fun j hj=>⟨ZJ hb (hc j hj).1,ZJ hb (hc j hj).2⟩⟩
theorem TermRow.reads {w:World} {B:Nat} {v:Value} {l:List (Nat×List UInt8)} (h:TermRow w B v l):TermsIn w v l:=by
 obtain ⟨ao,c,e,h1,h2,h3⟩:=row_cells h
 refine ⟨ao,c,e,h1,h2,fun h0=>?_⟩
 obtain ⟨g,rfl,hg,hc⟩:=h3 h0
 refine ⟨g,0,rfl,hg,fun j hj=>?_⟩
 have k:=fun r (hr:r<2)=>flat_at (fun p:Nat×List UInt8=>[.int .i64 (p.1:Int),.string ⟨p.2.toArray⟩]) 2 (fun _=>rfl) l j hj r hr
 have e1:l.getD j (0,[])=l[j]:=by rw[List.getD_eq_getElem?_getD,List.getElem?_eq_getElem hj]; rfl
 rw[e1,Nat.zero_add]
 exact ⟨hc _ _ (k 0 (by omega)),hc _ _ (k 1 (by omega))⟩
theorem terms_none (w:World):TermsIn w (.slice none 0 0) []:=⟨none,0,rfl,Nat.le_refl _,by unfold maxLen; omega,fun h=>absurd h (by simp)⟩
theorem toArray_list (l:List UInt8):(⟨l.toArray⟩:ByteArray).toList=l:=by
 rw[ByteArray.toList_eq]
def FormAt (w:World) (v:Value) (c:List UInt8) (l:List (Nat×List UInt8)):Prop:=∃tv,v=.agg #[.string ⟨c.toArray⟩,tv]∧TermsIn w tv l
theorem FormIn.reads {w:World} {B:Nat} {v:Value} {c:List UInt8} {l:List (Nat×List UInt8)} (h:FormIn w B v c l):FormAt w v c l:=by
 obtain ⟨tv,e,ht⟩:=h
 exact ⟨tv,e,ht.reads⟩
theorem FormAt.below {w w':World} {v:Value} {c:List UInt8} {l:List (Nat×List UInt8)} (h:FormAt w v c l) (hb:Below w.heap.size w w'):FormAt w' v c l:=by
 obtain ⟨tv,e,ht⟩:=h
 exact ⟨tv,e,ht.below hb⟩
theorem form_zero (w:World):FormAt w zeroForm [] []:=⟨_,rfl,terms_none w⟩
def addTo (m:Int→Option Rat) (i:Int) (q:Rat):Int→Option Rat:=fun j=>if j=i then some ((m i).getD 0+q) else m j
def noMap : Int→Option Rat:=fun _=>none
end Go.Proofs.YtdcaaehapdhckaaGreatDoor
