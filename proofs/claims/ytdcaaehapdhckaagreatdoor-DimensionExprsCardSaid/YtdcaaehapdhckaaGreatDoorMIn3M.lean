/- What came in: expressions, opened to what the walks are told of them. -/
import Derived.Test.YtdcaaehapdhckaaGreatDoorK7
import Derived.Test.YtdcaaehapdhckaaGreatDoorK1
set_option linter.unusedSimpArgs false
set_option linter.unusedVariables false
set_option maxRecDepth 100000
namespace Go.Proofs.YtdcaaehapdhckaaGreatDoor
open Go.ChangeShapes Go.WideShapes Go.ChangeAt Go.RowKit Go.Joins Go.Deep
set_option maxHeartbeats 1000000

section
variable {H:Type} {enc:TypeId×Value→H} {w:World} {base:Nat} {spare:Nat→Bool} {held:Bool}
theorem in_form2 {fuel:Nat} {v0 v1:Value} {y:DataW H×List MemPlace} (h:DataW.trod enc Tryz.prog w base spare held fuel 27 [v0,v1]=some y):∃(c:List UInt8) (l:List (Int×List UInt8)),v0=.string ⟨c.toArray⟩∧TermsZ w v1 l:=by
 obtain ⟨xs,n,hn,-,hlen,hxl,hf⟩:=DataW.trod_struct Tryz.underlying27 h
 have g0:DataW.trod enc Tryz.prog w base spare held n 24 (([v0,v1].drop 0).take (Tryz.prog.cellsOf 24))=xs[0]?:=hf 0 _ rfl
 have g1:DataW.trod enc Tryz.prog w base spare held n 25 (([v0,v1].drop 1).take (Tryz.prog.cellsOf 25))=xs[1]?:=hf 1 _ rfl
 rw[show Tryz.prog.cellsOf 24=1 by kernel_rfl] at g0
 rw[show Tryz.prog.cellsOf 25=1 by kernel_rfl] at g1
 simp only[List.drop_zero,List.drop_succ_cons,List.take_succ_cons,List.take_zero] at g0 g1
 obtain ⟨y0,y1,rfl⟩:∃y0 y1,xs = [y0,y1]:=by
  match xs,hxl with
  | [y0,y1],_=>exact ⟨y0,y1,rfl⟩
 obtain ⟨k0,e0,_,_⟩:=DataW.trod_string Tryz.underlying24 g0
 simp only[List.cons.injEq,and_true] at e0
 subst e0
 obtain ⟨l,hl⟩:=in_terms g1
 exact ⟨k0.data.toList,l,by rw[←bytes_back],hl⟩
theorem in_exs_all : ∀fuel:Nat,(∀{v:Value} {y:DataW H×List MemPlace},DataW.trod enc Tryz.prog w base spare held fuel 28 [v]=some y→∃l:List Ex,ExsIn w v l) ∧
  (∀{cs:List Value} {y:DataW H×List MemPlace},DataW.trod enc Tryz.prog w base spare held fuel 30 cs=some y→∃(v0 v1 v2 v3 v4:Value) (x:Ex),cs = [v0,v1,v2,v3,v4]∧ExIn w x (.agg #[v0,v1,v2,v3,v4]))
 | 0=>⟨fun h=>by simp[DataW.trod] at h,fun h=>by simp[DataW.trod] at h⟩
 | fuel+1=>by
  obtain ⟨ih1,ih2⟩:=in_exs_all fuel
  constructor
  ·intro v y h
   rcases DataW.trod_slice Tryz.underlying28 h with ⟨hcs,_⟩ | ⟨a,len,cap,elems,rest,n,hn,hcs,-,hb,hl,hm,hlen,hel,-,-⟩
   ·simp only[List.cons.injEq,and_true] at hcs
    subst hcs
    exact ⟨[],exs_none w⟩
   ·obtain rfl:n=fuel:=by omega
    simp only[List.cons.injEq,and_true] at hcs
    rw[show Tryz.prog.cellsOf 30=5 by kernel_rfl] at hel
    have hx:∀i,i<len→∃x:Ex,∃v0 v1 v2 v3 v4,w.cell? (a.add (i*5))=some v0∧w.cell? (a.add (i*5+1))=some v1∧w.cell? (a.add (i*5+2))=some v2∧w.cell? (a.add (i*5+3))=some v3∧w.cell? (a.add (i*5+4))=some v4∧ExIn w x (.agg #[v0,v1,v2,v3,v4]):=by
     intro i hi
     have h1:=hel i hi
     rw[List.getElem?_eq_getElem (show i<elems.length by omega),Option.bind_eq_some_iff] at h1
     obtain ⟨cs',hc,ht⟩:=h1
     obtain ⟨v0,v1,v2,v3,v4,x,rfl,hex⟩:=ih2 ht
     obtain ⟨_,hcl,hat⟩:=World.cells?_some hc
     have a0:=hat 0 (by omega)
     have a1:=hat 1 (by omega)
     have a2:=hat 2 (by omega)
     have a3:=hat 3 (by omega)
     have a4:=hat 4 (by omega)
     rw[Go.Deep.add_add] at a0 a1 a2 a3 a4
     exact ⟨x,v0,v1,v2,v3,v4,a0,a1,a2,a3,a4,hex⟩
    rcases Nat.eq_zero_or_pos len with h0 | h0
    ·exact ⟨[],some a,cap,by rw[hcs,h0]; rfl,by simp,hm,fun h=>absurd h (by simp)⟩
    ·obtain ⟨b,off,l,rfl,hbl,hlen2,hc⟩:=rows_of (w:=w) (z:=Ex.none) (A:=fun w b o x=>∃v0 v1 v2 v3 v4,w.cell? ⟨b,o,none⟩=some v0∧w.cell? ⟨b,o+1,none⟩=some v1∧w.cell? ⟨b,o+2,none⟩=some v2∧w.cell? ⟨b,o+3,none⟩=some v3∧w.cell? ⟨b,o+4,none⟩=some v4∧ExIn w x (.agg #[v0,v1,v2,v3,v4])) (k:=5) (a:=a) (len:=len)
      (fun i hil=>by
       obtain ⟨x,v0,v1,v2,v3,v4,c0,c1,c2,c3,c4,hex⟩:=hx i hil
       refine ⟨x,fun b off e=>?_⟩
       subst e
       simp only[add_plain] at c0 c1 c2 c3 c4
       exact ⟨v0,v1,v2,v3,v4,c0,c1,c2,c3,c4,hex⟩) h0 (by
       obtain ⟨x,v0,v1,v2,v3,v4,c0,-⟩:=hx 0 h0
       rw[show a.add (0*5)=a from rfl] at c0
       exact cell_lt c0)
     exact ⟨l,_,cap,by rw[hcs,hlen2],by omega,hm,fun _=>⟨b,off,rfl,hbl,CellsIn.of fun j hj=>hc j (by omega)⟩⟩
  ·intro cs y h
   obtain ⟨xs,n,hn,-,hlen,hxl,hf⟩:=DataW.trod_struct Tryz.underlying30 h
   obtain rfl:n=fuel:=by omega
   rw[show Tryz.prog.cellsOf 30=5 by kernel_rfl] at hlen
   obtain ⟨v0,v1,v2,v3,v4,rfl⟩:∃v0 v1 v2 v3 v4,cs = [v0,v1,v2,v3,v4]:=by
    match cs,hlen with
    | [v0,v1,v2,v3,v4],_=>exact ⟨v0,v1,v2,v3,v4,rfl⟩
   obtain ⟨y0,y1,y2,y3,rfl⟩:∃y0 y1 y2 y3,xs = [y0,y1,y2,y3]:=by
    match xs,hxl with
    | [y0,y1,y2,y3],_=>exact ⟨y0,y1,y2,y3,rfl⟩
   have g0:DataW.trod enc Tryz.prog w base spare held n 3 (([v0,v1,v2,v3,v4].drop 0).take (Tryz.prog.cellsOf 3))=some y0:=hf 0 _ rfl
   have g1:DataW.trod enc Tryz.prog w base spare held n 27 (([v0,v1,v2,v3,v4].drop 1).take (Tryz.prog.cellsOf 27))=some y1:=hf 1 _ rfl
   have g2:DataW.trod enc Tryz.prog w base spare held n 24 (([v0,v1,v2,v3,v4].drop 3).take (Tryz.prog.cellsOf 24))=some y2:=hf 2 _ rfl
   have g3:DataW.trod enc Tryz.prog w base spare held n 28 (([v0,v1,v2,v3,v4].drop 4).take (Tryz.prog.cellsOf 28))=some y3:=hf 3 _ rfl
   rw[show Tryz.prog.cellsOf 3=1 by kernel_rfl] at g0
   rw[show Tryz.prog.cellsOf 27=2 by kernel_rfl] at g1
   rw[show Tryz.prog.cellsOf 24=1 by kernel_rfl] at g2
   rw[show Tryz.prog.cellsOf 28=1 by kernel_rfl] at g3
   simp only[List.drop_zero,List.drop_succ_cons,List.take_succ_cons,List.take_zero] at g0 g1 g2 g3
   obtain ⟨k0,e0,_,_⟩:=DataW.trod_int Tryz.underlying3 g0
   obtain ⟨c,t,rfl,ht⟩:=in_form2 g1
   obtain ⟨k2,e2,_,_⟩:=DataW.trod_string Tryz.underlying24 g2
   obtain ⟨l,hl⟩:=ih1 g3
   simp only[List.cons.injEq,and_true] at e0 e2
   subst e0 e2
   refine ⟨_,_,_,_,_,.mk k0 c t k2.data.toList l,rfl,?_⟩
   have h9:=ExIn.of (x:=.mk k0 c t k2.data.toList l) (tv:=v2) (av:=v4) ht hl
   rw[bytes_back k2]
   exact h9
theorem in_expr {r:Reach} {b0:Nat} {v:Value} {d:DataW H} {p:List MemPlace} (hv:Value.okWide Tryz.prog w r b0 30 v) (h:DataW.Trod enc Tryz.prog w base spare held 30 v d p):∃x:Ex,ExIn w x v:=by
 obtain ⟨cs,rfl,hsz⟩:∃cs,v=.agg cs∧cs.size=5:=by
  unfold Value.okWide at hv
  rw[Tryz.underlying30] at hv
  simp only at hv
  obtain ⟨cs,rfl,hsz,-⟩:=hv
  exact ⟨cs,rfl,hsz.trans (show Tryz.prog.cellsOf 30=5 by kernel_rfl)⟩
 obtain ⟨fuel,hf⟩:=h
 obtain ⟨v0,v1,v2,v3,v4,x,e,hx⟩:=(in_exs_all fuel).2 hf
 simp only[Value.cells] at e
 refine ⟨x,?_⟩
 rw[show cs=#[v0,v1,v2,v3,v4] from by rw[←e]]
 exact hx
end
end Go.Proofs.YtdcaaehapdhckaaGreatDoor

