/- What the rows' lists give: the package's variables; a world for the witness. -/
import Derived.Test.YtdcaaehapdhckaaGreatDoorKF
import Derived.Test.YtdcaaehapdhckaaGreatDoorCards
import Derived.Test.YtdcaaehapdhckaaGreatDoorTie
import Derived.WalkKit
import Derived.ProofKit
import Derived.OpenShut
import Derived.Deep.DeepHandedRow
import Derived.Lib.LaidTab
import Derived.Stop.LaidErr
import Derived.Test.YtdcaaehapdhckaaGreatDoorKY
import Derived.Test.YtdcaaehapdhckaaGreatDoorK1
import Derived.ShutString
import Derived.ChangeOld
import Derived.Below
import Derived.Carry
import Derived.ChangeSlices
import Derived.SliceStrings
import Derived.Deep.Slices
import Derived.Deep.Fields
import Derived.ChangeSame
import Derived.Lib.SmallJoins
set_option linter.unusedSimpArgs false
set_option linter.unusedVariables false
set_option maxRecDepth 100000
namespace Go.Proofs.YtdcaaehapdhckaaGreatDoor
open Go.ChangeShapes Go.WideShapes Go.ChangeAt Go.RowKit

theorem own : ownKnob Tryz.prog.godebug=none:=by kernel_rfl
theorem laidOut : laidOutB Tryz.prog=true:=by kernel_rfl
theorem gPow : Tryz.prog.globalNamed "internal/strconv.uint64pow10" = some 1:=by kernel_rfl
theorem tPow : (Tryz.prog.globals[1]?).map (·.type)=some 251:=by kernel_rfl
theorem cellsPow : Tryz.prog.cellsOf 251=20:=by kernel_rfl
theorem cellsU64 : Tryz.prog.cellsOf 143=1:=by kernel_rfl
abbrev dlaid : List (String×DataW Unit):=[("math/bits.deBruijn32tab",Rows.laid_math_bits_deBruijn32tab),("math/bits.deBruijn64tab",Rows.laid_math_bits_deBruijn64tab),("internal/strconv.uint64pow10",Rows.laid_internal_strconv_uint64pow10),("unicode/utf8.acceptRanges",Rows.laid_unicode_utf8_acceptRanges),("strconv.ErrRange",Rows.laid_strconv_ErrRange),("strconv.ErrSyntax",Rows.laid_strconv_ErrSyntax),("unicode/utf8.first",Rows.laid_unicode_utf8_first)]
theorem glob_of {W:World} (hL:laidMet Tryz.prog dlaid W) (hs:W.ShapedOpen Tryz.prog):Glob W:=by
 have ht:Lib.TabIs Tryz.prog W "internal/strconv.uint64pow10" .u64 Lib.pow10Tab:=Lib.tabIs_of_head gPow tPow Tryz.underlying251 Tryz.underlying143 cellsU64 cellsPow (show laidMet Tryz.prog (("internal/strconv.uint64pow10",Lib.tabData .u64 Lib.pow10Tab)::[("unicode/utf8.acceptRanges",Rows.laid_unicode_utf8_acceptRanges),("strconv.ErrRange",Rows.laid_strconv_ErrRange),("strconv.ErrSyntax",Rows.laid_strconv_ErrSyntax),("unicode/utf8.first",Rows.laid_unicode_utf8_first)]) W from hL.tail.tail)
 exact ⟨ht,Go.Proofs.cell_of_shapedOpen_int (zero:=#[.int .i64 0]) (t:=3) hs (of_decide_eq_true (by kernel_rfl)) (by kernel_rfl) rfl (by kernel_rfl) (by kernel_rfl) Tryz.underlying3⟩

abbrev synS : ByteArray:={ data:=#[105,110,118,97,108,105,100,32,115,121,110,116,97,120] }
abbrev rngS : ByteArray:={ data:=#[118,97,108,117,101,32,111,117,116,32,111,102,32,114,97,110,103,101] }
noncomputable def low:Nat:=(World.holding Tryz.prog default ⟨#[],#[],[]⟩).heap.size
def withCells (cs:Array Value):Obj→Obj
 | .cells _ t frozen=>.cells cs t frozen
 | o=>o
noncomputable def laidWorld (os:Os):World:=
 let w0:=World.holding Tryz.prog os ⟨#[.cells #[.string synS] 264,.cells #[.string rngS] 264],#[],[]⟩
 { w0 with heap:=(((((((w0.heap.modify 4 (withCells #[.iface 262 (.pointer (some ⟨low,0,none⟩))])).modify 5 (withCells #[.iface 262 (.pointer (some ⟨low+1,0,none⟩))])).modify 1 (withCells #[.int .u64 1,.int .u64 10,.int .u64 100,.int .u64 1000,.int .u64 10000,.int .u64 100000,.int .u64 1000000,.int .u64 10000000,.int .u64 100000000,.int .u64 1000000000,.int .u64 10000000000,.int .u64 100000000000,.int .u64 1000000000000,.int .u64 10000000000000,.int .u64 100000000000000,.int .u64 1000000000000000,.int .u64 10000000000000000,.int .u64 100000000000000000,.int .u64 1000000000000000000,.int .u64 10000000000000000000])).modify 6 (withCells #[.int .u8 0,.int .u8 1,.int .u8 28,.int .u8 2,.int .u8 29,.int .u8 14,.int .u8 24,.int .u8 3,.int .u8 30,.int .u8 22,.int .u8 20,.int .u8 15,.int .u8 25,.int .u8 17,.int .u8 4,.int .u8 8,.int .u8 31,.int .u8 27,.int .u8 13,.int .u8 23,.int .u8 21,.int .u8 19,.int .u8 16,.int .u8 7,.int .u8 26,.int .u8 12,.int .u8 18,.int .u8 6,.int .u8 11,.int .u8 5,.int .u8 10,.int .u8 9])).modify 7 (withCells #[.int .u8 0,.int .u8 1,.int .u8 56,.int .u8 2,.int .u8 57,.int .u8 49,.int .u8 28,.int .u8 3,.int .u8 61,.int .u8 58,.int .u8 42,.int .u8 50,.int .u8 38,.int .u8 29,.int .u8 17,.int .u8 4,.int .u8 62,.int .u8 47,.int .u8 59,.int .u8 36,.int .u8 45,.int .u8 43,.int .u8 51,.int .u8 22,.int .u8 53,.int .u8 39,.int .u8 33,.int .u8 30,.int .u8 24,.int .u8 18,.int .u8 12,.int .u8 5,.int .u8 63,.int .u8 55,.int .u8 48,.int .u8 27,.int .u8 60,.int .u8 41,.int .u8 37,.int .u8 16,.int .u8 46,.int .u8 35,.int .u8 44,.int .u8 21,.int .u8 52,.int .u8 32,.int .u8 23,.int .u8 11,.int .u8 54,.int .u8 26,.int .u8 40,.int .u8 15,.int .u8 34,.int .u8 20,.int .u8 31,.int .u8 10,.int .u8 25,.int .u8 14,.int .u8 19,.int .u8 9,.int .u8 13,.int .u8 8,.int .u8 7,.int .u8 6])).modify 2 (withCells #[.int .u8 240,.int .u8 240,.int .u8 240,.int .u8 240,.int .u8 240,.int .u8 240,.int .u8 240,.int .u8 240,.int .u8 240,.int .u8 240,.int .u8 240,.int .u8 240,.int .u8 240,.int .u8 240,.int .u8 240,.int .u8 240,.int .u8 240,.int .u8 240,.int .u8 240,.int .u8 240,.int .u8 240,.int .u8 240,.int .u8 240,.int .u8 240,.int .u8 240,.int .u8 240,.int .u8 240,.int .u8 240,.int .u8 240,.int .u8 240,.int .u8 240,.int .u8 240,.int .u8 240,.int .u8 240,.int .u8 240,.int .u8 240,.int .u8 240,.int .u8 240,.int .u8 240,.int .u8 240,.int .u8 240,.int .u8 240,.int .u8 240,.int .u8 240,.int .u8 240,.int .u8 240,.int .u8 240,.int .u8 240,.int .u8 240,.int .u8 240,.int .u8 240,.int .u8 240,.int .u8 240,.int .u8 240,.int .u8 240,.int .u8 240,.int .u8 240,.int .u8 240,.int .u8 240,.int .u8 240,.int .u8 240,.int .u8 240,.int .u8 240,.int .u8 240,.int .u8 240,.int .u8 240,.int .u8 240,.int .u8 240,.int .u8 240,.int .u8 240,.int .u8 240,.int .u8 240,.int .u8 240,.int .u8 240,.int .u8 240,.int .u8 240,.int .u8 240,.int .u8 240,.int .u8 240,.int .u8 240,.int .u8 240,.int .u8 240,.int .u8 240,.int .u8 240,.int .u8 240,.int .u8 240,.int .u8 240,.int .u8 240,.int .u8 240,.int .u8 240,.int .u8 240,.int .u8 240,.int .u8 240,.int .u8 240,.int .u8 240,.int .u8 240,.int .u8 240,.int .u8 240,.int .u8 240,.int .u8 240,.int .u8 240,.int .u8 240,.int .u8 240,.int .u8 240,.int .u8 240,.int .u8 240,.int .u8 240,.int .u8 240,.int .u8 240,.int .u8 240,.int .u8 240,.int .u8 240,.int .u8 240,.int .u8 240,.int .u8 240,.int .u8 240,.int .u8 240,.int .u8 240,.int .u8 240,.int .u8 240,.int .u8 240,.int .u8 240,.int .u8 240,.int .u8 240,.int .u8 240,.int .u8 240,.int .u8 240,.int .u8 240,.int .u8 241,.int .u8 241,.int .u8 241,.int .u8 241,.int .u8 241,.int .u8 241,.int .u8 241,.int .u8 241,.int .u8 241,.int .u8 241,.int .u8 241,.int .u8 241,.int .u8 241,.int .u8 241,.int .u8 241,.int .u8 241,.int .u8 241,.int .u8 241,.int .u8 241,.int .u8 241,.int .u8 241,.int .u8 241,.int .u8 241,.int .u8 241,.int .u8 241,.int .u8 241,.int .u8 241,.int .u8 241,.int .u8 241,.int .u8 241,.int .u8 241,.int .u8 241,.int .u8 241,.int .u8 241,.int .u8 241,.int .u8 241,.int .u8 241,.int .u8 241,.int .u8 241,.int .u8 241,.int .u8 241,.int .u8 241,.int .u8 241,.int .u8 241,.int .u8 241,.int .u8 241,.int .u8 241,.int .u8 241,.int .u8 241,.int .u8 241,.int .u8 241,.int .u8 241,.int .u8 241,.int .u8 241,.int .u8 241,.int .u8 241,.int .u8 241,.int .u8 241,.int .u8 241,.int .u8 241,.int .u8 241,.int .u8 241,.int .u8 241,.int .u8 241,.int .u8 241,.int .u8 241,.int .u8 2,.int .u8 2,.int .u8 2,.int .u8 2,.int .u8 2,.int .u8 2,.int .u8 2,.int .u8 2,.int .u8 2,.int .u8 2,.int .u8 2,.int .u8 2,.int .u8 2,.int .u8 2,.int .u8 2,.int .u8 2,.int .u8 2,.int .u8 2,.int .u8 2,.int .u8 2,.int .u8 2,.int .u8 2,.int .u8 2,.int .u8 2,.int .u8 2,.int .u8 2,.int .u8 2,.int .u8 2,.int .u8 2,.int .u8 2,.int .u8 19,.int .u8 3,.int .u8 3,.int .u8 3,.int .u8 3,.int .u8 3,.int .u8 3,.int .u8 3,.int .u8 3,.int .u8 3,.int .u8 3,.int .u8 3,.int .u8 3,.int .u8 35,.int .u8 3,.int .u8 3,.int .u8 52,.int .u8 4,.int .u8 4,.int .u8 4,.int .u8 68,.int .u8 241,.int .u8 241,.int .u8 241,.int .u8 241,.int .u8 241,.int .u8 241,.int .u8 241,.int .u8 241,.int .u8 241,.int .u8 241,.int .u8 241])).modify 3 (withCells #[.int .u8 128,.int .u8 191,.int .u8 160,.int .u8 191,.int .u8 128,.int .u8 159,.int .u8 144,.int .u8 191,.int .u8 128,.int .u8 143,.int .u8 0,.int .u8 0,.int .u8 0,.int .u8 0,.int .u8 0,.int .u8 0,.int .u8 0,.int .u8 0,.int .u8 0,.int .u8 0,.int .u8 0,.int .u8 0,.int .u8 0,.int .u8 0,.int .u8 0,.int .u8 0,.int .u8 0,.int .u8 0,.int .u8 0,.int .u8 0,.int .u8 0,.int .u8 0])) }
theorem laidWorld_met (os:Os) (args:Array Value):laidMet Tryz.prog dlaid ((laidWorld os).forCall (fun _ _=>0) ⟨#[],args,[]⟩).memory:=
 laidMet_of_run' 8 (by kernel_rfl) (by kernel_rfl)
end Go.Proofs.YtdcaaehapdhckaaGreatDoor
set_option maxRecDepth 100000
namespace Go.Proofs.YtdcaaehapdhckaaGreatDoor
open Go.ChangeShapes Go.WideShapes Go.ChangeAt Go.RowKit Go.Joins Go.Deep

theorem add_plain {b off j:Nat}:(⟨b,off,none⟩:Addr).add j=⟨b,off+j,none⟩:=by
 unfold Addr.add
 split
 ·next h=>subst h; rfl
 ·rfl
theorem cell_lt {w:World} {a:Addr} {v:Value} (h:w.cell? a=some v):a.block<w.heap.size∧a.spot=none:=by
 unfold World.cell? at h
 constructor
 ·rcases Nat.lt_or_ge a.block w.heap.size with h1 | h1
  ·exact h1
  ·rw[Array.getElem?_eq_none h1] at h
   cases h
 ·split at h
  ·cases hs:a.spot with
   | none=>rfl
   | some k=>rw[hs] at h; simp at h
  ·cases h
section
variable {H:Type} {enc:TypeId×Value→H} {w:World} {base:Nat} {spare:Nat→Bool} {held:Bool}
theorem open_slice_fields {P:Program} {t e:TypeId} {fs:Array Field} {fuel:Nat} {cs:List Value} {x:DataW H×List MemPlace} (ht:P.underlying t=some (.slice e)) (he:P.underlying e=some (.struct fs))
  (hone:oneCellFields P fs=true) (hC:P.cellsOf e=fs.size) (h:DataW.trod enc P w base spare held fuel t cs=some x) :
  (cs = [.slice none 0 0]) ∨
  ∃(a:Addr) (len cap m:Nat),cs = [.slice (some a) len cap]∧len≤cap∧cap≤maxLen∧m=(if spare a.block then cap else len) ∧
   ∀i,i<m→∃(n:Nat),∀(j:Nat) (f:Field),fs[j]?=some f→∃(v:Value) (y:DataW H×List MemPlace),w.cell? (a.add (i*fs.size+j))=some v∧DataW.trod enc P w base spare held n f.type [v]=some y:=by
 rcases open_slice ht h with h0 | ⟨a,len,cap,m,n,D,Pl,hcs,hb,hl,hm,hmm,hx,hi⟩
 ·exact .inl h0.1
 ·refine .inr ⟨a,len,cap,m,hcs,hl,hm,hmm,fun i him=>?_⟩
  obtain ⟨cs',hc,ht'⟩:=hi i him
  rw[hC] at hc
  obtain ⟨ys,n',hn',hy,hlen,hyl,hf⟩:=DataW.trod_struct he ht'
  obtain ⟨_,hcl,hat⟩:=World.cells?_some hc
  refine ⟨n',fun j f hj=>?_⟩
  obtain ⟨ho,hk⟩:=hone_of hone j f hj
  have hjl:j<fs.size:=(Array.getElem?_eq_some_iff.1 hj).1
  have hcell:=hat j hjl
  have hv:cs'[j]?=some (cs'[j]'(by omega)):=List.getElem?_eq_getElem (by omega)
  have h1:=hf j f hj
  rw[ho,hk] at h1
  have hone':(cs'.drop j).take 1 = [cs'[j]'(by omega)]:=by
   rw[List.drop_eq_getElem_cons (by omega)]
   rfl
  rw[hone'] at h1
  have hys:ys[j]?=some (ys[j]'(by omega)):=List.getElem?_eq_getElem (by omega)
  refine ⟨_,_,?_,h1.trans hys⟩
  rw[←Go.Deep.add_add,hcell,hv]
theorem rows_of {α:Type} {z:α} {A:World→Nat→Nat→α→Prop} {k:Nat} {a:Addr} {len:Nat} (hx:∀i,i<len→∃x:α,∀b off,a=⟨b,off,none⟩→A w b (off+i*k) x) (_:0<len) (hp:a.block<w.heap.size∧a.spot=none) :
  ∃(b off:Nat) (l:List α),a=⟨b,off,none⟩∧b<w.heap.size∧l.length=len∧∀j,j<len→A w b (off+j*k) (l.getD j z):=by
 obtain ⟨b,off,sp⟩:=a
 obtain ⟨hb,hs⟩:=hp
 simp only at hb hs
 subst hs
 classical
 let g:Nat→α:=fun i=>if h:i<len then Classical.choose (hx i h) else z
 have hg:∀i,i<len→A w b (off+i*k) (g i):=by
  intro i hil
  have:=Classical.choose_spec (hx i hil)
  have e:g i=Classical.choose (hx i hil):=by simp only[g,dif_pos hil]
  rw[←e] at this
  exact this b off rfl
 refine ⟨b,off,(List.range len).map g,rfl,hb,by simp,fun j hj=>?_⟩
 have e:((List.range len).map g).getD j z=g j:=by simp[List.getD_eq_getElem?_getD,hj]
 rw[e]
 exact hg j hj
theorem in_dims {fuel:Nat} {v:Value} {y:DataW H×List MemPlace} (h:DataW.trod enc Tryz.prog w base spare held fuel 59 [v]=some y) :
  ∃(ao:Option Addr) (c:Nat) (l:List Dm),v=.slice ao l.length c∧DimsIn w ao c l:=by
 rcases open_slice_fields Tryz.underlying59 Tryz.underlying70 (by kernel_rfl) (by kernel_rfl) h with hcs | ⟨a,len,cap,m,hcs,hl,hm,hmm,hi⟩
 ·simp only[List.cons.injEq,and_true] at hcs
  exact ⟨none,0,[],hcs,by simp,by unfold maxLen; omega,fun h=>absurd h (by simp)⟩
 ·simp only[List.cons.injEq,and_true] at hcs
  have hle:len≤m:=by rw[hmm]; split<;>omega
  have hx:∀i,i<len→∃x:Dm,w.cell? (a.add (i*4+0))=some (.string x.name)∧w.cell? (a.add (i*4+1))=some (.int .i64 x.nominal)∧w.cell? (a.add (i*4+2))=some (.int .i64 x.lower)∧w.cell? (a.add (i*4+3))=some (.int .i64 x.upper):=by
   intro i hil
   obtain ⟨n,hf⟩:=hi i (by omega)
   obtain ⟨v0,y0,c0,h0⟩:=hf 0 _ rfl
   obtain ⟨v1,y1,c1,h1⟩:=hf 1 _ rfl
   obtain ⟨v2,y2,c2,h2⟩:=hf 2 _ rfl
   obtain ⟨v3,y3,c3,h3⟩:=hf 3 _ rfl
   obtain ⟨k0,e0,_,_⟩:=DataW.trod_string Tryz.underlying9 h0
   obtain ⟨k1,e1,_,_⟩:=DataW.trod_int Tryz.underlying3 h1
   obtain ⟨k2,e2,_,_⟩:=DataW.trod_int Tryz.underlying3 h2
   obtain ⟨k3,e3,_,_⟩:=DataW.trod_int Tryz.underlying3 h3
   simp only[List.cons.injEq,and_true] at e0 e1 e2 e3
   subst e0 e1 e2 e3
   exact ⟨⟨k0,k1,k2,k3⟩,c0,c1,c2,c3⟩
  rcases Nat.eq_zero_or_pos len with h0 | h0
  ·exact ⟨some a,cap,[],by rw[hcs,h0]; rfl,by simp,by omega,fun h=>absurd h (by simp)⟩
  ·obtain ⟨b,off,l,rfl,hb,hlen,hc⟩:=rows_of (w:=w) (z:=Dm.none) (A:=fun w b o x=>w.cell? ⟨b,o,none⟩=some (.string x.name)∧w.cell? ⟨b,o+1,none⟩=some (.int .i64 x.nominal)∧w.cell? ⟨b,o+2,none⟩=some (.int .i64 x.lower)∧w.cell? ⟨b,o+3,none⟩=some (.int .i64 x.upper)) (k:=4) (a:=a) (len:=len)
    (fun i hil=>by
     obtain ⟨x,c0,c1,c2,c3⟩:=hx i hil
     refine ⟨x,fun b off e=>?_⟩
     subst e
     simp only[add_plain] at c0 c1 c2 c3
     exact ⟨c0,c1,c2,c3⟩) h0 (by
     obtain ⟨_,hc0,_⟩:=hx 0 h0
     rw[show a.add (0*4+0)=a from rfl] at hc0
     exact cell_lt hc0)
   refine ⟨_,cap,l,by rw[hcs,hlen],by omega,by omega,fun _=>⟨b,off,rfl,hb,fun j hj=>hc j (by omega)⟩⟩
theorem bytes_back (s:ByteArray):s=⟨s.data.toList.toArray⟩:=by
 apply ByteArray.ext
 simp
theorem in_terms {fuel:Nat} {v:Value} {y:DataW H×List MemPlace} (h:DataW.trod enc Tryz.prog w base spare held fuel 25 [v]=some y):∃l:List (Int×List UInt8),TermsZ w v l:=by
 rcases open_slice_fields Tryz.underlying25 Tryz.underlying85 (by kernel_rfl) (by kernel_rfl) h with hcs | ⟨a,len,cap,m,hcs,hl,hm,hmm,hi⟩
 ·simp only[List.cons.injEq,and_true] at hcs
  exact ⟨[],none,0,hcs,by simp,by unfold maxLen; omega,fun h=>absurd h (by simp)⟩
 ·simp only[List.cons.injEq,and_true] at hcs
  have hle:len≤m:=by rw[hmm]; split<;>omega
  have hx:∀i,i<len→∃x:Int×List UInt8,w.cell? (a.add (i*2+0))=some (.int .i64 x.1)∧w.cell? (a.add (i*2+1))=some (.string ⟨x.2.toArray⟩):=by
   intro i hil
   obtain ⟨n,hf⟩:=hi i (by omega)
   obtain ⟨v0,y0,c0,h0⟩:=hf 0 _ rfl
   obtain ⟨v1,y1,c1,h1⟩:=hf 1 _ rfl
   obtain ⟨k0,e0,_,_⟩:=DataW.trod_int Tryz.underlying3 h0
   obtain ⟨k1,e1,_,_⟩:=DataW.trod_string Tryz.underlying24 h1
   simp only[List.cons.injEq,and_true] at e0 e1
   subst e0 e1
   exact ⟨(k0,k1.data.toList),c0,by rw[←bytes_back]; exact c1⟩
  rcases Nat.eq_zero_or_pos len with h0 | h0
  ·exact ⟨[],some a,cap,by rw[hcs,h0]; rfl,by simp,by omega,fun h=>absurd h (by simp)⟩
  ·obtain ⟨b,off,l,rfl,hb,hlen,hc⟩:=rows_of (w:=w) (z:=((0:Int),([]:List UInt8))) (A:=fun w b o x=>w.cell? ⟨b,o,none⟩=some (.int .i64 x.1)∧w.cell? ⟨b,o+1,none⟩=some (.string ⟨x.2.toArray⟩)) (k:=2) (a:=a) (len:=len)
    (fun i hil=>by
     obtain ⟨x,c0,c1⟩:=hx i hil
     refine ⟨x,fun b off e=>?_⟩
     subst e
     simp only[add_plain] at c0 c1
     exact ⟨c0,c1⟩) h0 (by
     obtain ⟨_,hc0,_⟩:=hx 0 h0
     rw[show a.add (0*2+0)=a from rfl] at hc0
     exact cell_lt hc0)
   exact ⟨l,_,cap,by rw[hcs,hlen],by omega,by omega,fun _=>⟨b,off,rfl,hb,fun j hj=>hc j (by omega)⟩⟩
theorem in_form {r:Reach} {b0:Nat} {v:Value} {d:DataW H} {p:List MemPlace} (hv:Value.okWide Tryz.prog w r b0 27 v) (h:DataW.Trod enc Tryz.prog w base spare held 27 v d p) :
  ∃(c:List UInt8) (l:List (Int×List UInt8)),FormZ w v c l:=by
 obtain ⟨v0,v1,y0,y1,n,rfl,_,_,h0,h1⟩:=open_agg2 Tryz.underlying27 (by kernel_rfl) (by kernel_rfl) hv h
 obtain ⟨k0,e0,_,_⟩:=DataW.trod_string Tryz.underlying24 h0
 simp only[List.cons.injEq,and_true] at e0
 subst e0
 obtain ⟨l,hl⟩:=in_terms h1
 exact ⟨k0.data.toList,l,v1,by rw[←bytes_back],hl⟩
theorem struct_field {P:Program} {t:TypeId} {fs:Array Field} (he:P.underlying t=some (.struct fs)) (hone:oneCellFields P fs=true) {fuel:Nat} {cs:List Value} {x:DataW H×List MemPlace} (h:DataW.trod enc P w base spare held fuel t cs=some x) (hl:cs.length=fs.size) :
  ∃n,∀(j:Nat) (f:Field),fs[j]?=some f→∃(v:Value) (y:DataW H×List MemPlace),cs[j]?=some v∧DataW.trod enc P w base spare held n f.type [v]=some y:=by
 obtain ⟨ys,n',hn',hy,hlen,hyl,hf⟩:=DataW.trod_struct he h
 refine ⟨n',fun j f hj=>?_⟩
 obtain ⟨ho,hk⟩:=hone_of hone j f hj
 have hjl:j<fs.size:=(Array.getElem?_eq_some_iff.1 hj).1
 have h1:=hf j f hj
 rw[ho,hk] at h1
 have hone':(cs.drop j).take 1 = [cs[j]'(by omega)]:=by
  rw[List.drop_eq_getElem_cons (by omega)]
  rfl
 rw[hone'] at h1
 have hys:ys[j]?=some (ys[j]'(by omega)):=List.getElem?_eq_getElem (by omega)
 exact ⟨_,_,List.getElem?_eq_getElem (by omega),h1.trans hys⟩
theorem in_dim {r:Reach} {b0:Nat} {v:Value} {d:DataW H} {p:List MemPlace} (hv:Value.okWide Tryz.prog w r b0 70 v) (h:DataW.Trod enc Tryz.prog w base spare held 70 v d p):∃x:Dm,v=dmV x:=by
 obtain ⟨cs,rfl,hsz⟩:∃cs,v=.agg cs∧cs.size=4:=by
  unfold Value.okWide at hv
  rw[Tryz.underlying70] at hv
  simp only at hv
  obtain ⟨cs,rfl,hsz,-⟩:=hv
  exact ⟨cs,rfl,hsz.trans (show Tryz.prog.cellsOf 70=4 by kernel_rfl)⟩
 obtain ⟨fuel,hf⟩:=h
 obtain ⟨n,hg⟩:=struct_field Tryz.underlying70 (by kernel_rfl) hf (by simpa[Value.cells] using hsz)
 obtain ⟨v0,y0,c0,h0⟩:=hg 0 _ rfl
 obtain ⟨v1,y1,c1,h1⟩:=hg 1 _ rfl
 obtain ⟨v2,y2,c2,h2⟩:=hg 2 _ rfl
 obtain ⟨v3,y3,c3,h3⟩:=hg 3 _ rfl
 obtain ⟨k0,e0,_,_⟩:=DataW.trod_string Tryz.underlying9 h0
 obtain ⟨k1,e1,_,_⟩:=DataW.trod_int Tryz.underlying3 h1
 obtain ⟨k2,e2,_,_⟩:=DataW.trod_int Tryz.underlying3 h2
 obtain ⟨k3,e3,_,_⟩:=DataW.trod_int Tryz.underlying3 h3
 simp only[List.cons.injEq,and_true] at e0 e1 e2 e3
 subst e0 e1 e2 e3
 obtain ⟨l⟩:=cs
 match l,hsz with
 | [d0,d1,d2,d3],_=>
  simp[Value.cells] at c0 c1 c2 c3
  subst c0 c1 c2 c3
  exact ⟨⟨k0,k1,k2,k3⟩,rfl⟩
theorem in_u8 {n:Int} (h:(Lit.int .u8 n).wf=true):0≤n∧n≤255:=by
 simp[Lit.wf,IntKind.min,IntKind.max,IntKind.bits,IntKind.signed] at h
 omega
theorem in_i16 {n:Int} (h:(Lit.int .i16 n).wf=true):-32768≤n∧n≤32767:=by
 simp[Lit.wf,IntKind.min,IntKind.max,IntKind.bits,IntKind.signed] at h
 omega
theorem in_i64 {n:Int} (h:(Lit.int .i64 n).wf=true):-9223372036854775808≤n∧n≤9223372036854775807:=by
 simp[Lit.wf,IntKind.min,IntKind.max,IntKind.bits,IntKind.signed] at h
 omega
end
end Go.Proofs.YtdcaaehapdhckaaGreatDoor
