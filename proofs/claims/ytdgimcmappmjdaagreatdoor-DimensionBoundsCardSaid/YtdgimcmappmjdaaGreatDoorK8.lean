/- What came in: chains, small numbers, opened to what the walks are told of them. -/
import Derived.Test.YtdgimcmappmjdaaGreatDoorK7
import Derived.Deep.LoopGhost
import Derived.Deep.OwnRows
import Derived.WalkSmall
import Derived.RegionTactic
import Derived.ChangeAlike
import Derived.BigRegion
set_option linter.unusedSimpArgs false
set_option linter.unusedVariables false
set_option maxRecDepth 100000
namespace Go.Proofs.YtdgimcmappmjdaaGreatDoor
open Go.ChangeShapes Go.WideShapes Go.ChangeAt Go.RowKit Go.Joins Go.Deep

def PartsIn (w:World) (v:Value) (l:List Int):Prop:=∃ao c,v=.slice ao l.length c∧l.length≤c∧c≤maxLen∧(0<l.length→∃b off,ao=some ⟨b,off,none⟩∧b<w.heap.size∧∀j,j<l.length→w.cell? ⟨b,off+j,none⟩=some (.int .u8 (l.getD j 0))∧0≤l.getD j 0∧l.getD j 0≤255)
theorem PartsIn.below {w w':World} {v:Value} {l:List Int} (h:PartsIn w v l) (hb:Below w.heap.size w w'):PartsIn w' v l:=by
 obtain ⟨ao,c,e,h1,h2,h3⟩:=h
 refine ⟨ao,c,e,h1,h2,fun h0=>?_⟩
 obtain ⟨b,off,ea,hl,hc⟩:=h3 h0
 exact ⟨b,off,ea,Nat.lt_of_lt_of_le hl hb.size,fun j hj=>⟨ZJ hb (hc j hj).1,(hc j hj).2⟩⟩
def NumsIn (w:World) (v:Value) (l:List Int):Prop:=∃ao c,v=.slice ao l.length c∧l.length≤c∧c≤maxLen∧(0<l.length→∃b off,ao=some ⟨b,off,none⟩∧b<w.heap.size∧∀j,j<l.length→w.cell? ⟨b,off+j,none⟩=some (.int .i16 (l.getD j 0))∧-32768≤l.getD j 0∧l.getD j 0≤32767)
theorem NumsIn.below {w w':World} {v:Value} {l:List Int} (h:NumsIn w v l) (hb:Below w.heap.size w w'):NumsIn w' v l:=by
 obtain ⟨ao,c,e,h1,h2,h3⟩:=h
 refine ⟨ao,c,e,h1,h2,fun h0=>?_⟩
 obtain ⟨b,off,ea,hl,hc⟩:=h3 h0
 exact ⟨b,off,ea,Nat.lt_of_lt_of_le hl hb.size,fun j hj=>⟨ZJ hb (hc j hj).1,(hc j hj).2⟩⟩
abbrev Trip := Int×Int×Int
def tripOk (t:Trip):Prop:=(0≤t.1∧t.1≤255)∧(0≤t.2.1∧t.2.1≤255)∧(0≤t.2.2∧t.2.2≤255)
def ChainIn (w:World) (v:Value) (l:List Trip):Prop:=∃ao c,v=.agg #[.slice ao l.length c]∧l.length≤c∧c≤maxLen∧(0<l.length→∃b off,ao=some ⟨b,off,none⟩∧b<w.heap.size∧∀j,j<l.length→w.cell? ⟨b,off+j*3,none⟩=some (.int .u8 (l.getD j (0,0,0)).1)∧w.cell? ⟨b,off+j*3+1,none⟩=some (.int .u8 (l.getD j (0,0,0)).2.1)∧w.cell? ⟨b,off+j*3+2,none⟩=some (.int .u8 (l.getD j (0,0,0)).2.2)∧tripOk (l.getD j (0,0,0)))
theorem ChainIn.below {w w':World} {v:Value} {l:List Trip} (h:ChainIn w v l) (hb:Below w.heap.size w w'):ChainIn w' v l:=by
 obtain ⟨ao,c,e,h1,h2,h3⟩:=h
 refine ⟨ao,c,e,h1,h2,fun h0=>?_⟩
 obtain ⟨b,off,ea,hl,hc⟩:=h3 h0
 exact ⟨b,off,ea,Nat.lt_of_lt_of_le hl hb.size,fun j hj=>⟨ZJ hb (hc j hj).1,ZJ hb (hc j hj).2.1,ZJ hb (hc j hj).2.2.1,(hc j hj).2.2.2⟩⟩
section
variable {H:Type} {enc:TypeId×Value→H} {w:World} {base:Nat} {spare:Nat→Bool} {held:Bool}
theorem in_ints {k:IntKind} {t e:TypeId} (ht:Tryz.prog.underlying t=some (.slice e)) (he:Tryz.prog.underlying e=some (.int k)) (h1:Tryz.prog.cellsOf e=1) {fuel:Nat} {v:Value} {y:DataW H×List MemPlace} (h:DataW.trod enc Tryz.prog w base spare held fuel t [v]=some y) :
  ∃(l:List Int) (ao:Option Addr) (c:Nat),v=.slice ao l.length c∧l.length≤c∧c≤maxLen∧(0<l.length→∃b off,ao=some ⟨b,off,none⟩∧b<w.heap.size∧∀j,j<l.length→w.cell? ⟨b,off+j,none⟩=some (.int k (l.getD j 0))∧(Lit.int k (l.getD j 0)).wf=true):=by
 rcases open_ints ht he h1 h with ⟨ad,_⟩ | ⟨a,ac,cap,zs,ad,_,hl,hm,hz,_,aa,hwf⟩
 ·simp only[List.cons.injEq,and_true] at ad
  exact ⟨[],none,0,ad,Nat.le_refl _,by unfold maxLen; omega,fun h=>absurd h (by simp)⟩
 ·simp only[List.cons.injEq,and_true] at ad
  have hle:ac≤zs.length:=by rw[hz]; split<;>omega
  have ae:(zs.take ac).length=ac:=by simp[hle]
  rcases Nat.eq_zero_or_pos ac with h0 | h0
  ·exact ⟨[],some a,cap,by rw[ad,h0]; rfl,by simp,hm,fun h=>absurd h (by simp)⟩
  ·have af:=aa 0 (by omega)
   rw[show a.add 0=a from rfl] at af
   obtain ⟨b,off,sp⟩:=a
   obtain ⟨hb,hs⟩:=cell_lt af
   simp only at hb hs
   subst hs
   refine ⟨zs.take ac,_,cap,by rw[ae]; exact ad,by omega,hm,fun _=>⟨b,off,rfl,hb,fun j hj=>?_⟩⟩
   have:=aa j (by omega)
   rw[add_plain] at this
   rw[this]
   have e:(zs.take ac).getD j 0=zs[j]'(by omega):=by
    simp only[List.getD_eq_getElem?_getD,List.getElem?_take,if_pos (show j<ac by omega)]
    rw[List.getElem?_eq_getElem (by omega)]
    rfl
   have e2:zs.getD j 0=zs[j]'(by omega):=by
    rw[List.getD_eq_getElem?_getD,List.getElem?_eq_getElem (by omega)]
    rfl
   have hw:=hwf _ (List.getElem_mem (show j<zs.length by omega))
   rw[e]
   first
    | exact ⟨rfl,hw⟩
    | exact ⟨by rw[←e2],hw⟩
theorem in_u8s {fuel:Nat} {v:Value} {y:DataW H×List MemPlace} (h:DataW.trod enc Tryz.prog w base spare held fuel 49 [v]=some y):∃l:List Int,PartsIn w v l:=by
 obtain ⟨l,ao,c,e,h1,h2,h3⟩:=in_ints Tryz.underlying49 Tryz.underlying5 (by kernel_rfl) h
 refine ⟨l,ao,c,e,h1,h2,fun h0=>?_⟩
 obtain ⟨b,off,ea,hb,hc⟩:=h3 h0
 exact ⟨b,off,ea,hb,fun j hj=>⟨(hc j hj).1,in_u8 (hc j hj).2⟩⟩
theorem in_trips {fuel:Nat} {v:Value} {y:DataW H×List MemPlace} (h:DataW.trod enc Tryz.prog w base spare held fuel 46 [v]=some y):∃l:List Trip,ChainIn w (.agg #[v]) l:=by
 rcases open_slice Tryz.underlying46 h with h0 | ⟨a,len,cap,m,n,D,Pl,ac,hb,hl,hm,hmm,hx,hi⟩
 ·have ac:=h0.1
  simp only[List.cons.injEq,and_true] at ac
  subst ac
  exact ⟨[],none,0,rfl,by simp,by unfold maxLen; omega,fun h=>absurd h (by simp)⟩
 ·simp only[List.cons.injEq,and_true] at ac
  subst ac
  have hle:len≤m:=by rw[hmm]; split<;>omega
  have hx:∀i,i<len→∃x:Trip,w.cell? (a.add (i*3+0))=some (.int .u8 x.1)∧w.cell? (a.add (i*3+1))=some (.int .u8 x.2.1)∧w.cell? (a.add (i*3+2))=some (.int .u8 x.2.2)∧tripOk x:=by
   intro i af
   obtain ⟨cs',hc,ht'⟩:=hi i (by omega)
   rw[show Tryz.prog.cellsOf 110=3 by kernel_rfl] at hc
   obtain ⟨_,hcl,ad⟩:=World.cells?_some hc
   obtain ⟨xs,n',-,-,-,aa,hg⟩:=DataW.trod_array Tryz.underlying110 ht'
   rw[show Tryz.prog.cellsOf 5=1 by kernel_rfl] at hg
   match cs',hcl with
   | [c0,c1,c2],_=>
    match xs,aa with
    | [y0,y1,y2],_=>
     obtain ⟨k0,e0,-,w0⟩:=DataW.trod_int Tryz.underlying5 (x:=y0) (by simpa using hg 0 (by decide))
     obtain ⟨k1,e1,-,w1⟩:=DataW.trod_int Tryz.underlying5 (x:=y1) (by simpa using hg 1 (by decide))
     obtain ⟨k2,e2,-,w2⟩:=DataW.trod_int Tryz.underlying5 (x:=y2) (by simpa using hg 2 (by decide))
     simp only[List.cons.injEq,and_true] at e0 e1 e2
     subst e0 e1 e2
     refine ⟨(k0,k1,k2),?_,?_,?_,in_u8 w0,in_u8 w1,in_u8 w2⟩
     ·rw[←Go.Deep.add_add,ad 0 (by decide)]; rfl
     ·rw[←Go.Deep.add_add,ad 1 (by decide)]; rfl
     ·rw[←Go.Deep.add_add,ad 2 (by decide)]; rfl
  rcases Nat.eq_zero_or_pos len with h0 | h0
  ·exact ⟨[],some a,cap,by rw[h0]; rfl,by simp,by omega,fun h=>absurd h (by simp)⟩
  ·obtain ⟨b,off,l,rfl,hb,aa,hc⟩:=rows_of (w:=w) (z:=((0,0,0):Trip)) (A:=fun w b o x=>w.cell? ⟨b,o,none⟩=some (.int .u8 x.1)∧w.cell? ⟨b,o+1,none⟩=some (.int .u8 x.2.1)∧w.cell? ⟨b,o+2,none⟩=some (.int .u8 x.2.2)∧tripOk x) (k:=3) (a:=a) (len:=len)
    (fun i af=>by
     obtain ⟨x,c0,c1,c2,c3⟩:=hx i af
     refine ⟨x,fun b off e=>?_⟩
     subst e
     simp only[add_plain] at c0 c1 c2
     exact ⟨c0,c1,c2,c3⟩) h0 (by
     obtain ⟨_,ae,_⟩:=hx 0 h0
     rw[show a.add (0*3+0)=a from rfl] at ae
     exact cell_lt ae)
   exact ⟨l,_,cap,by rw[aa],by omega,by omega,fun _=>⟨b,off,rfl,hb,fun j hj=>hc j (by omega)⟩⟩
theorem in_chain {r:Reach} {b0:Nat} {v:Value} {d:DataW H} {p:List MemPlace} (hv:Value.okWide Tryz.prog w r b0 48 v) (h:DataW.Trod enc Tryz.prog w base spare held 48 v d p):∃l:List Trip,ChainIn w v l:=by
 obtain ⟨cs,rfl,aa⟩:∃cs,v=.agg cs∧cs.size=1:=by
  unfold Value.okWide at hv
  rw[Tryz.underlying48] at hv
  simp only at hv
  obtain ⟨cs,rfl,aa,-⟩:=hv
  exact ⟨cs,rfl,aa.trans (show Tryz.prog.cellsOf 48=1 by kernel_rfl)⟩
 obtain ⟨fuel,hf⟩:=h
 obtain ⟨n,hg⟩:=struct_field Tryz.underlying48 (by kernel_rfl) hf (by simpa[Value.cells] using aa)
 obtain ⟨v0,y0,c0,h0⟩:=hg 0 _ rfl
 obtain ⟨l,hl⟩:=in_trips h0
 obtain ⟨k⟩:=cs
 match k,aa with
 | [d0],_=>
  simp[Value.cells] at c0
  subst c0
  exact ⟨l,hl⟩
theorem in_u8x4 {r:Reach} {b0:Nat} {v:Value} {d:DataW H} {p:List MemPlace} (hv:Value.okWide Tryz.prog w r b0 89 v) (h:DataW.Trod enc Tryz.prog w base spare held 89 v d p) :
  ∃x y z u:Int,v=.agg #[.int .u8 x,.int .u8 y,.int .u8 z,.int .u8 u]∧(0≤x∧x≤255)∧(0≤y∧y≤255)∧(0≤z∧z≤255)∧(0≤u∧u≤255):=by
 unfold Value.okWide at hv
 rw[Tryz.underlying89] at hv
 simp only at hv
 obtain ⟨cs,rfl,hsz,-⟩:=hv
 have aa:cs.size=4:=hsz.trans (show Tryz.prog.cellsOf 89=4 by kernel_rfl)
 obtain ⟨fuel,hf⟩:=h
 obtain ⟨xs,n,-,-,-,ac,hg⟩:=DataW.trod_array Tryz.underlying89 hf
 have hce:Tryz.prog.cellsOf 5=1:=by kernel_rfl
 rw[hce] at hg
 obtain ⟨l⟩:=cs
 match l,aa with
 | [c0,c1,c2,c3],_=>
  match xs,ac with
  | [y0,y1,y2,y3],_=>
   obtain ⟨k0,e0,-,w0⟩:=DataW.trod_int Tryz.underlying5 (x:=y0) (by simpa[Value.cells] using hg 0 (by decide))
   obtain ⟨k1,e1,-,w1⟩:=DataW.trod_int Tryz.underlying5 (x:=y1) (by simpa[Value.cells] using hg 1 (by decide))
   obtain ⟨k2,e2,-,w2⟩:=DataW.trod_int Tryz.underlying5 (x:=y2) (by simpa[Value.cells] using hg 2 (by decide))
   obtain ⟨k3,e3,-,w3⟩:=DataW.trod_int Tryz.underlying5 (x:=y3) (by simpa[Value.cells] using hg 3 (by decide))
   simp only[List.cons.injEq,and_true] at e0 e1 e2 e3
   subst e0 e1 e2 e3
   exact ⟨k0,k1,k2,k3,rfl,in_u8 w0,in_u8 w1,in_u8 w2,in_u8 w3⟩
end
open Go.RowKit Go.Num Go.Flow
set_option maxHeartbeats 8000000
def chainLen (l:List Trip):Nat:=if l.length=0 then 1 else min 4 l.length
def nmOf (i:Nat):ByteArray:=⟨#[UInt8.ofNat (97+i)]⟩
def tripAt (l:List Trip) (i:Nat):Trip:=l.getD i (0,0,0)
def chainDim (l:List Trip) (i:Nat):Dm:=if i<l.length then ⟨nmOf i,(tripAt l i).1,-((tripAt l i).2.1%64),(tripAt l i).2.2%64⟩ else ⟨nmOf i,0,0,0⟩
def chainDims (l:List Trip) (k:Nat):List Dm:=(List.range k).map (chainDim l)
theorem chainDims_succ (l:List Trip) (k:Nat):chainDims l (k+1)=chainDims l k++[chainDim l k]:=by
 unfold chainDims
 rw[List.range_succ,List.map_append]
 rfl
theorem chainDims_len (l:List Trip) (k:Nat):(chainDims l k).length=k:=by unfold chainDims; simp
theorem one_string (W:World) (b:Nat) (x:UInt8) (h:W.heap[b]?=some (.cells #[.int .u8 x.toNat] 5 (0,0))):(convert 49 9 (.slice (some ⟨b,0,none⟩) 1 1)).run Tryz.prog W=.ok (.string ⟨#[x]⟩) W:=by
 have:=run_convert_bytes_back (P:=Tryz.prog) W 49 9 5 ⟨b,0,none⟩ 1 [x] Tryz.underlying49 Tryz.underlying5 Tryz.underlying9 (fun j hj=>by
  have hj':j<1:=by simpa using hj
  obtain rfl:j=0:=by omega
  rw[show (⟨b,0,none⟩:Addr).add 0=⟨b,0,none⟩ by unfold Addr.add; split<;>simp_all]
  simp only[World.cell?]
  rw[h]
  rfl)
 simpa using this
theorem nm_string (W:World) (k:Nat) (hk:k<4):(convert 49 9 (.slice (some ⟨W.heap.size,0,none⟩) 1 1)).run Tryz.prog (W.alloc (.cells #[.int .u8 (97+(k:Int))] 5))=.ok (.string (nmOf k)) (W.alloc (.cells #[.int .u8 (97+(k:Int))] 5)):=by
 have e1:((UInt8.ofNat (97+k)).toNat:Int)=97+(k:Int):=by
  rw[UInt8.toNat_ofNat',Nat.mod_eq_of_lt (by omega)]
  omega
 refine one_string _ _ (UInt8.ofNat (97+k)) ?_
 rw[ZW,e1]
theorem append_dm {w:World} {B:Nat} {v:Value} {l:List Dm} (h:w.ownsRow B 23 4 v l.length (dmCells l)) (hl:l.length≤100000) {b:Nat} {d:Dm} {t:TypeId} (hk:w.heap[b]?=some (.cells #[.string d.name,.int .i64 d.nominal,.int .i64 d.lower,.int .i64 d.upper] t (0,0))) (hB:B≤w.heap.size) (ty:TypeId) :
  ∃v' w',(Builtin.append_ #[29,29] ty #[v,.slice (some ⟨b,0,none⟩) 1 1]).run Tryz.prog w=.ok v' w'∧w'.ownsRow B 23 4 v' (l++[d]).length (dmCells (l++[d]))∧Below B w w'∧(∀k,k<w.heap.size→(∀g,v.ownBlock=some g→g≠k)→w'.heap[k]?=w.heap[k]?):=by
 obtain ⟨i0,hi,hz,hs,hby⟩:∃i,Tryz.prog.info? 23=some i∧i.zero=some (.agg #[.string ⟨#[]⟩,.int .i64 0,.int .i64 0,.int .i64 0])∧i.size=4∧i.bytes=40:=by
  have h:=infoDim
  cases hx:Tryz.prog.info? 23 with
  | none=>rw[hx] at h; simp at h
  | some i=>rw[hx] at h; simp at h; exact ⟨i,rfl,h.1,h.2.1,h.2.2⟩
 obtain ⟨v',w',e,h4,h5,-⟩:=run_append_own (P:=Tryz.prog) (w:=w) B 29 ty 23 i0 _ 4 40 Tryz.underlying29 hi hz hs hby rfl (by decide) v l.length (dmCells l) h ⟨b,0,none⟩ 1 1 [.string d.name,.int .i64 d.nominal,.int .i64 d.lower,.int .i64 d.upper] rfl (fun j u hu=>by
  have:(⟨b,0,none⟩:Addr).add j=⟨b,j,none⟩:=by
   unfold Addr.add
   split
   ·next h=>subst h; rfl
   ·simp
  rw[this,ZI hk,←hu]
  simp) (by intro u hu; simp at hu; rcases hu with rfl | rfl | rfl | rfl<;>rfl) (by unfold maxLen; omega) (by omega) hB
 refine ⟨v',w',e,?_,(ZR B w).grown h5 hB (fun q e=>(World.ownsRow.lt h q e).1),fun k hk hne=>h5.block k hk (fun e=>hne k e.symm rfl)⟩
 have e2:dmCells (l++[d])=dmCells l++[.string d.name,.int .i64 d.nominal,.int .i64 d.lower,.int .i64 d.upper]:=by unfold dmCells; rw[List.flatMap_append]; rfl
 rw[e2,List.length_append]
 exact h4
theorem three_set {w:World} {b:Nat} {x0 x1 x2 x3:Value} {t:TypeId} (h:w.heap[b]?=some (.cells #[x0,x1,x2,x3] t (0,0))) (u1 u2 u3:Value):(((w.setCell ⟨b,1,none⟩ u1).setCell ⟨b,2,none⟩ u2).setCell ⟨b,3,none⟩ u3).heap[b]?=some (.cells #[x0,u1,u2,u3] t (0,0)):=by
 simp[World.setCell,Array.getElem?_modify,h]
theorem pDimensions_any {w:World} {v:Value} {l:List Trip} (hc:ChainIn w v l):Calls Tryz.prog 24 #[v] w fun e w'=>∃v',e=.returned v'∧w'.ownsRow w.heap.size 23 4 v' (chainDims l (chainLen l)).length (dmCells (chainDims l (chainLen l)))∧Below w.heap.size w w':=by
 obtain ⟨ao,c,rfl,h1,h2,h3⟩:=hc
 obtain ⟨n,hn⟩:∃n,n=l.length:=⟨_,rfl⟩
 obtain ⟨wa,ba,aU,aX,aV,k0⟩:=new_box w #[.slice ao n c] 48
 have hcap:n≤c∧c≤9223372036854775807:=by rw[hn]; exact ⟨h1,h2⟩
 have HC:=ZH h3
 have HAL:=ZH aV
 have HK:=ZH k0
 have HN:=ZH hn
 have HW:=ZH (ZN aU aX)
 obtain ⟨CL,aM⟩:∃x,x=chainLen l:=⟨_,rfl⟩
 have aA:=ZH (ZN aM (show CL≤4∧1≤CL by rw[aM]; unfold chainLen; split<;>omega))
 rw[←hn,←aM]
 clear aU aX aV k0 h1 h2 h3 hn aM
 go_enter Tryz.func24,Tryz.ntmps24
 go_upto_region 1 with fail
 rw[←HW.out.1,←HW.out.2]
 clear HW
 go_upto_region 3 with fail
 go_loopg [3,4] CL (fun gk u i wr=>∃k:Nat,k+gk=CL∧i=.int .i64 k∧Hid (wr.ownsRow w.heap.size 23 4 u (chainDims l k).length (dmCells (chainDims l k)))∧Hid (wr.heap[ba]?=some (.cells #[.slice ao n c] 48 (0,0)))∧Hid (Below w.heap.size w wr))
 case atStart=>exact ⟨0,by omega,rfl,ZH (World.ownsRow_nil _ _ _ _),HK,HAL⟩
 case round=>
  obtain ⟨k,hk,rfl,an,aL,aF⟩:=hrel
  have y0:=cells1 (ZR _ wr) aL.out
  by_cases hlt:k<CL
  ·have e1:((k:Int)<4)=True:=eq_true (by have:=aA.out; omega)
   have hk4:k<4:=by have:=aA.out; omega
   have aQ:=ZH (nm_string wr k hk4)
   have ak:=ZH an.out
   have ai:=ZH aL.out
   have af:=ZH aF.out
   have aY:=ZH (chainDims_succ l k)
   have u1:IntKind.i64.wrap (97+(k:Int))=97+(k:Int):=IntWalk.i64_in _ (by omega)
   have u2:IntKind.u8.wrap (97+(k:Int))=97+(k:Int):=by simp[IntKind.wrap,IntKind.bits,IntKind.signed]; omega
   have hstr:=aQ.out
   by_cases hkl:k<n
   ·have e2:((k:Int)<(n:Int))=True:=eq_true (by omega)
    have aj:=ZH (ZN hlt hkl)
    clear an aL aF hlt hkl
    obtain ⟨g,og,rfl,-,aW⟩:=HC.out (by have:=HN.out; have:=aj.out; omega)
    have hx:=aW k (by have:=HN.out; have:=aj.out; omega)
    have aP:chainDim l k=⟨nmOf k,(tripAt l k).1,-((tripAt l k).2.1%64),(tripAt l k).2.2%64⟩:=by unfold chainDim; rw[if_pos (by have:=HN.out; have:=aj.out; omega)]
    obtain ⟨⟨tx,ty,tz⟩,aN⟩:∃t,t=tripAt l k:=⟨_,rfl⟩
    have hx:wr.cell? ⟨g,og+k*3,none⟩=some (.int .u8 tx)∧wr.cell? ⟨g,og+k*3+1,none⟩=some (.int .u8 ty)∧wr.cell? ⟨g,og+k*3+2,none⟩=some (.int .u8 tz)∧tripOk (tx,ty,tz):=by
     unfold tripAt at aN
     rw[←aN] at hx
     exact ⟨ZJ af.out hx.1,ZJ af.out hx.2.1,ZJ af.out hx.2.2.1,hx.2.2.2⟩
    rw[←aN] at aP
    have HDI:=ZH aP
    have HX:=ZH hx
    have aB:=ZH hx.2.2.2
    have hk0:(0:Int)≤(k:Int):=by omega
    have hk1:(k:Int)<(n:Int):=by have:=aj.out; omega
    have aI:chainDims l (k+1)=chainDims l k++[⟨nmOf k,tx,-(ty%64),tz%64⟩]:=by rw[aY.out,HDI.out]
    have aO:=ZH aI
    clear aW hx aP aN aI
    rcases Nat.eq_zero_or_pos k with h0 | h0
    ·have e0:((k:Int)==0)=true:=by rw[h0]; rfl
     clear h0
     go_upto_region 5 with fail
     obtain ⟨w5,bs,b5,al,aJ,au,ae,-,k5⟩:=new_two wr #[.int .u8 (97+(k:Int))] #[.string (nmOf k),.int .i64 0,.int .i64 0,.int .i64 0] 5 23
     have aa:=(ae.block ba (ZL ai.out)).trans ai.out
     have y5:=cells1 (ZR _ w5) aa
     have q0:=ZJ ae HX.out.1
     have q1:=ZJ ae HX.out.2.1
     have q2:=ZJ ae HX.out.2.2.1
     rw[al] at y5 q0 q1 q2
     go_upto_region 8 with fail
     rw[←al,←au]
     obtain ⟨w6,b6,aC,aG,aw,k6⟩:=new_box w5 #[.int .u8 tx,.int .u8 ty,.int .u8 tz] 110
     have ap:b5+1=b6:=by rw[aG,al,au]; simp
     rw[←aC,ap]
     have aH:=ae.trans (aw.mono ae.size)
     have am:=ZH (ZN k6 (ZN ((aw.block b5 (ZL k5)).trans k5) ((aw.block ba (ZL aa)).trans aa)))
     have aS:=ZH aH
     have ar:=ZH (show b6≠b5∧w.heap.size≤b5∧b5≠ba∧wr.heap.size≤b5 from ⟨by have:=ZL k5; omega,by have:=af.out.size; omega,by have:=ZL ai.out; omega,by omega⟩)
     clear aC aG ap aw k6 aH al aJ au ae k5 aa y0 y5 q0 q1 q2
     obtain ⟨x0,x1,x2⟩:=cells3 (ZR _ w6) am.out.1
     obtain ⟨z0,z1,z2,z3⟩:=cells4 (ZR _ w6) am.out.2.1
     have f1:=ZF am.out.2.1 1
     have f2:=ZF am.out.2.1 2
     have f3:=ZF am.out.2.1 3
     have n1:¬b6=b5:=ar.out.1
     have n2:¬b5=b6:=fun h=>ar.out.1 h.symm
     have t1:=aB.out.1
     have t2:=aB.out.2.1
     have t3:=aB.out.2.2
     simp only[] at t1 t2 t3
     go_region
     obtain ⟨wb,av⟩:∃x,x=((w6.setCell ⟨b5,1,none⟩ (.int .i64 tx)).setCell ⟨b5,2,none⟩ (.int .i64 (-(ty%64)))).setCell ⟨b5,3,none⟩ (.int .i64 (tz%64)):=⟨_,rfl⟩
     rw[←av]
     obtain ⟨w7,ax⟩:∃x,x=wb.drew:=⟨_,rfl⟩
     rw[←ax]
     have ah:Below wr.heap.size wr w7:=by
      rw[ax,av]
      exact (((aS.out.setCell (p:=⟨b5,1,none⟩) ar.out.2.2.2 _).setCell (p:=⟨b5,2,none⟩) ar.out.2.2.2 _).setCell (p:=⟨b5,3,none⟩) ar.out.2.2.2 _).drew
     have k7:w7.heap[b5]?=some (.cells #[.string (nmOf k),.int .i64 tx,.int .i64 (-(ty%64)),.int .i64 (tz%64)] 23 (0,0)):=by
      have e9:=three_set am.out.2.1 (.int .i64 tx) (.int .i64 (-(ty%64))) (.int .i64 (tz%64))
      rw[←av] at e9
      rw[ax]
      exact e9
     have aE:=ZH (ZN ah (af.out.trans (ah.mono af.out.size)))
     clear x0 x1 x2 z0 z1 z2 z3 f1 f2 f3 n1 n2 t1 t2 t3 av ax ah
     obtain ⟨z0,z1,z2,z3⟩:=cells4 (ZR _ w7) k7
     have ay:Below w7.heap.size w7 (w7.alloc (.cells #[.string (nmOf k),.int .i64 tx,.int .i64 (-(ty%64)),.int .i64 (tz%64)] 23)):=(ZR _ w7).alloc (Nat.le_refl _) _
     have ad:=aE.out.1.trans (ay.mono aE.out.1.size)
     obtain ⟨v9,w9,aq,ac,az,ag⟩:=append_dm (d:=⟨nmOf k,tx,-(ty%64),tz%64⟩) (row_below ak.out ad) (by rw[chainDims_len]; omega) (ZW w7 _) (show w.heap.size≤_ from Nat.le_trans af.out.size ad.size) 29
     have HE:=ZH (show w9.ownsRow w.heap.size 23 4 v9 (chainDims l (k+1)).length (dmCells (chainDims l (k+1)))∧Below w.heap.size w w9 from ⟨by rw[aO.out]; exact ac,(af.out.trans (ad.mono af.out.size)).trans az⟩)
     have aD:=ZH (show w9.heap[ba]?=some (.cells #[.slice (some ⟨g,og,none⟩) n c] 48 (0,0)) from by
      have e8:=(ad.block ba (ZL ai.out)).trans ai.out
      exact (ag ba (ZL e8) (row_off (row_below ak.out ad) e8 (by decide))).trans e8)
     clear ac az ad ay k7 ag
     go_wp2_with (at_builtin; refine wpList_append_run _ rfl _ _ 29 rfl _ _ rfl rfl aq ?_)
     go_roundg (CL-(k+1))
     case measure=>have:=aj.out; omega
     case rel=>exact ⟨k+1,by have:=aj.out; omega,by first | (congr 1; done) | (congr 1; exact IntWalk.wrap64_in ((k:Int)+1) (by have:=aj.out; have:=aA.out; omega)),ZH HE.out.1,aD,ZH HE.out.2⟩
    ·have e0:((k:Int)==0)=false:=by simp; omega
     clear h0
     go_upto_region 5 with fail
     obtain ⟨w5,bs,b5,al,aJ,au,ae,-,k5⟩:=new_two wr #[.int .u8 (97+(k:Int))] #[.string (nmOf k),.int .i64 0,.int .i64 0,.int .i64 0] 5 23
     have aa:=(ae.block ba (ZL ai.out)).trans ai.out
     have y5:=cells1 (ZR _ w5) aa
     have q0:=ZJ ae HX.out.1
     have q1:=ZJ ae HX.out.2.1
     have q2:=ZJ ae HX.out.2.2.1
     rw[al] at y5 q0 q1 q2
     go_upto_region 8 with fail
     rw[←al,←au]
     obtain ⟨w6,b6,aC,aG,aw,k6⟩:=new_box w5 #[.int .u8 tx,.int .u8 ty,.int .u8 tz] 110
     have ap:b5+1=b6:=by rw[aG,al,au]; simp
     rw[←aC,ap]
     have aH:=ae.trans (aw.mono ae.size)
     have am:=ZH (ZN k6 (ZN ((aw.block b5 (ZL k5)).trans k5) ((aw.block ba (ZL aa)).trans aa)))
     have aS:=ZH aH
     have ar:=ZH (show b6≠b5∧w.heap.size≤b5∧b5≠ba∧wr.heap.size≤b5 from ⟨by have:=ZL k5; omega,by have:=af.out.size; omega,by have:=ZL ai.out; omega,by omega⟩)
     clear aC aG ap aw k6 aH al aJ au ae k5 aa y0 y5 q0 q1 q2
     obtain ⟨x0,x1,x2⟩:=cells3 (ZR _ w6) am.out.1
     obtain ⟨z0,z1,z2,z3⟩:=cells4 (ZR _ w6) am.out.2.1
     have f1:=ZF am.out.2.1 1
     have f2:=ZF am.out.2.1 2
     have f3:=ZF am.out.2.1 3
     have n1:¬b6=b5:=ar.out.1
     have n2:¬b5=b6:=fun h=>ar.out.1 h.symm
     have t1:=aB.out.1
     have t2:=aB.out.2.1
     have t3:=aB.out.2.2
     simp only[] at t1 t2 t3
     go_region
     obtain ⟨wb,av⟩:∃x,x=((w6.setCell ⟨b5,1,none⟩ (.int .i64 tx)).setCell ⟨b5,2,none⟩ (.int .i64 (-(ty%64)))).setCell ⟨b5,3,none⟩ (.int .i64 (tz%64)):=⟨_,rfl⟩
     rw[←av]
     obtain ⟨w7,ax⟩:∃x,x=wb.drew:=⟨_,rfl⟩
     rw[←ax]
     have ah:Below wr.heap.size wr w7:=by
      rw[ax,av]
      exact (((aS.out.setCell (p:=⟨b5,1,none⟩) ar.out.2.2.2 _).setCell (p:=⟨b5,2,none⟩) ar.out.2.2.2 _).setCell (p:=⟨b5,3,none⟩) ar.out.2.2.2 _).drew
     have k7:w7.heap[b5]?=some (.cells #[.string (nmOf k),.int .i64 tx,.int .i64 (-(ty%64)),.int .i64 (tz%64)] 23 (0,0)):=by
      have e9:=three_set am.out.2.1 (.int .i64 tx) (.int .i64 (-(ty%64))) (.int .i64 (tz%64))
      rw[←av] at e9
      rw[ax]
      exact e9
     have aE:=ZH (ZN ah (af.out.trans (ah.mono af.out.size)))
     clear x0 x1 x2 z0 z1 z2 z3 f1 f2 f3 n1 n2 t1 t2 t3 av ax ah
     obtain ⟨z0,z1,z2,z3⟩:=cells4 (ZR _ w7) k7
     have ay:Below w7.heap.size w7 (w7.alloc (.cells #[.string (nmOf k),.int .i64 tx,.int .i64 (-(ty%64)),.int .i64 (tz%64)] 23)):=(ZR _ w7).alloc (Nat.le_refl _) _
     have ad:=aE.out.1.trans (ay.mono aE.out.1.size)
     obtain ⟨v9,w9,aq,ac,az,ag⟩:=append_dm (d:=⟨nmOf k,tx,-(ty%64),tz%64⟩) (row_below ak.out ad) (by rw[chainDims_len]; omega) (ZW w7 _) (show w.heap.size≤_ from Nat.le_trans af.out.size ad.size) 29
     have HE:=ZH (show w9.ownsRow w.heap.size 23 4 v9 (chainDims l (k+1)).length (dmCells (chainDims l (k+1)))∧Below w.heap.size w w9 from ⟨by rw[aO.out]; exact ac,(af.out.trans (ad.mono af.out.size)).trans az⟩)
     have aD:=ZH (show w9.heap[ba]?=some (.cells #[.slice (some ⟨g,og,none⟩) n c] 48 (0,0)) from by
      have e8:=(ad.block ba (ZL ai.out)).trans ai.out
      exact (ag ba (ZL e8) (row_off (row_below ak.out ad) e8 (by decide))).trans e8)
     clear ac az ad ay k7 ag
     go_wp2_with (at_builtin; refine wpList_append_run _ rfl _ _ 29 rfl _ _ rfl rfl aq ?_)
     go_roundg (CL-(k+1))
     case measure=>have:=aj.out; omega
     case rel=>exact ⟨k+1,by have:=aj.out; omega,by first | (congr 1; done) | (congr 1; exact IntWalk.wrap64_in ((k:Int)+1) (by have:=aj.out; have:=aA.out; omega)),ZH HE.out.1,aD,ZH HE.out.2⟩
   ·have e2:((k:Int)<(n:Int))=False:=eq_false (by omega)
    have h0:k=0∧n=0∧CL=1:=by
     have h1:=aA.out.1
     have h2:=HN.out
     unfold chainLen at h1
     split at h1<;>omega
    have e0:((k:Int)==0)=true:=by rw[h0.1]; rfl
    have hk0:(0:Int)≤(k:Int):=by omega
    have aI:chainDims l (k+1)=chainDims l k++[⟨nmOf k,0,0,0⟩]:=by
     rw[aY.out]
     unfold chainDim
     rw[if_neg (by have:=HN.out; omega)]
    have aO:=ZH aI
    have aj:=ZH (ZN hlt h0)
    clear an aL aF hlt hkl h0 aI
    go_upto_region 5 with fail
    obtain ⟨w5,bs,b5,al,aJ,au,ae,-,k5⟩:=new_two wr #[.int .u8 (97+(k:Int))] #[.string (nmOf k),.int .i64 0,.int .i64 0,.int .i64 0] 5 23
    have aa:=(ae.block ba (ZL ai.out)).trans ai.out
    have y5:=cells1 (ZR _ w5) aa
    rw[al] at y5
    go_upto_region 9 with fail
    rw[←al,←au]
    have y5:=cells1 (ZR _ w5) aa
    obtain ⟨z0,z1,z2,z3⟩:=cells4 (ZR _ w5) k5
    have ay:Below w5.heap.size w5 (w5.alloc (.cells #[.string (nmOf k),.int .i64 0,.int .i64 0,.int .i64 0] 23)):=(ZR _ w5).alloc (Nat.le_refl _) _
    have ad:=ae.trans (ay.mono ae.size)
    obtain ⟨v9,w9,aq,ac,az,ag⟩:=append_dm (d:=⟨nmOf k,0,0,0⟩) (row_below ak.out ad) (by rw[chainDims_len]; omega) (ZW w5 _) (show w.heap.size≤_ from Nat.le_trans af.out.size ad.size) 29
    have HE:=ZH (show w9.ownsRow w.heap.size 23 4 v9 (chainDims l (k+1)).length (dmCells (chainDims l (k+1)))∧Below w.heap.size w w9 from ⟨by rw[aO.out]; exact ac,(af.out.trans (ad.mono af.out.size)).trans az⟩)
    have aD:=ZH (show w9.heap[ba]?=some (.cells #[.slice ao n c] 48 (0,0)) from by
     have e8:=(ad.block ba (ZL ai.out)).trans ai.out
     exact (ag ba (ZL e8) (row_off (row_below ak.out ad) e8 (by decide))).trans e8)
    clear ac az ad ay ag k5 ae al aJ au aa
    go_wp2_with (at_builtin; refine wpList_append_run _ rfl _ _ 29 rfl _ _ rfl rfl aq ?_)
    go_roundg (CL-(k+1))
    case measure=>have:=aj.out; omega
    case rel=>exact ⟨k+1,by have:=aj.out; omega,by first | (congr 1; done) | (congr 1; exact IntWalk.wrap64_in ((k:Int)+1) (by have:=aj.out; have:=aA.out; omega)),ZH HE.out.1,aD,ZH HE.out.2⟩
  ·have aT:k=CL:=by omega
   have aR:k=4∨(k<4∧0<k∧n≤k):=by
    have h1:=aA.out.1
    have h2:=HN.out
    unfold chainLen at h1
    split at h1<;>omega
   have aK:=ZH (show wr.ownsRow w.heap.size 23 4 _ (chainDims l CL).length (dmCells (chainDims l CL))∧Below w.heap.size w wr from ⟨by rw[←aT]; exact an.out,aF.out⟩)
   clear an aF hlt aT hk
   rcases aR with h4 | ⟨h4,h5,h6⟩
   ·subst h4
    go_wp2_with fail
    go_ret
    exact ⟨_,rfl,aK.out⟩
   ·have e1:((k:Int)<4)=True:=eq_true (by omega)
    have e0:((k:Int)==0)=false:=by simp; omega
    have e2:((k:Int)<(n:Int))=False:=eq_false (by omega)
    go_wp2_with fail
    go_ret
    exact ⟨_,rfl,aK.out⟩
end Go.Proofs.YtdgimcmappmjdaaGreatDoor
