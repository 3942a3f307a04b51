/- A range over the expressions inside an expression, whose iterator ranges over iterators of its own: what the loop owes, what the iterator owes. -/
import Derived.RangeFuncNested
import Derived.RangeFuncLeaves
import Derived.Test.YtdcaaehapdhckaaGreatDoorEA
set_option linter.unusedSimpArgs false
set_option linter.unusedVariables false
set_option maxRecDepth 100000
namespace Go.Proofs.YtdcaaehapdhckaaGreatDoor
open Go.RowKit Go.Num Go.Flow
set_option maxHeartbeats 4000000

theorem Keep.refl (P:Nat→Prop) (w:World):Keep P w w:=⟨Nat.le_refl _,fun _ _ _=>rfl⟩
theorem Keep.trans {P:Nat→Prop} {u v w:World} (h:Keep P u v) (k:Keep P v w):Keep P u w:=⟨Nat.le_trans h.1 k.1,fun b hb hl=>(k.2 b hb (Nat.lt_of_lt_of_le hl h.1)).trans (h.2 b hb hl)⟩
theorem Keep.weak {P Q:Nat→Prop} {u v:World} (h:Keep P u v) (hq:∀b,Q b→P b):Keep Q u v:=⟨h.1,fun b hb hl=>h.2 b (hq b hb) hl⟩
theorem keep_put (w:World) (l:Nat) (o:Obj):Keep (fun b=>b≠l) w (w.putObj l o):=⟨by simp,fun _ hb _=>World.putObj_heap_other hb⟩
theorem Keep.same {P:Nat→Prop} {u v:World} (h:Keep P u v) {b:Nat} {o:Obj} (hb:P b) (hk:u.heap[b]?=some o):v.heap[b]?=some o:=(h.2 b hb (Array.getElem?_eq_some_iff.1 hk).1).trans hk
theorem room_any {F:Fence} (hd:F.depth=none) (k:Nat):F.room k:=fun d h=>by rw[hd] at h; cases h
theorem round_any {F:Fence} (hd:F.depth=none) {m m':Nat} {P:Program} {l:Nat} {f:FuncId} {tmps:Array Value} {assign body:Code} {w:World} {R:Ending→World→Prop} (h:RoundIn F m P l f tmps assign body w R):RoundIn F m' P l f tmps assign body w R:=⟨h.1,fun c cs _=>h.2 c cs (room_any hd _)⟩
def GoesOver (F:Fence) (n:Nat) (gf:Nat) (lb:Array Value) (xs:List (Nat×Ex)) (Nd:(Nat→Prop)→World→Prop):Prop:=
 ∀(l:Nat) (J Jx:List (Nat×Ex)→World→Prop) (A:Nat→Prop) (W:World),Nd A W→(∀b,W.heap.size≤b→A b)→OwnFrom W.heap.size J→OwnFrom W.heap.size Jx →
  (∀(m:Nat) pre lv y v W1,J pre W1→ExP W1 A y v→pre++[(lv,y)] <+: xs→YieldAt F m Tryz.prog l #[.int .i64 ((lv:Nat):Int),v] W1 fun e W'=>
   Keep A W1 W'∧((e=.returned (.bool true)∧J (pre++[(lv,y)]) W')∨(e=.returned (.bool false)∧Jx (pre++[(lv,y)]) W'))) →
  J [] W→CallsIn F n Tryz.prog gf (#[.func (.yield l) #[] #[]]++lb) W fun e W'=>(∃v,e=.returned v)∧Keep A W W'∧(J xs W'∨∃pre,pre <+: xs∧Jx pre W')
def roundEnd (O:Nat→Prop) (I:List (Nat×Ex)→World→Prop) (Ix:Code→List (Nat×Ex)→World→Prop) (xs:List (Nat×Ex)) (W:World):Exit→Act→World→Prop
 | .normal,_,W'=>Keep (fun b=>¬O b) W W'∧I xs W'
 | .ret,_,W'=>Keep (fun b=>¬O b) W W'∧Ix .ret xs W'
 | .exit id,_,W'=>Keep (fun b=>¬O b) W W'∧Ix (.exit id) xs W'
 | .goto t,_,W'=>Keep (fun b=>¬O b) W W'∧Ix (.goto t) xs W'
 | .panic _,_,_=>False
 | .outgrown,_,_=>False
theorem wpIn_nodes {F:Fence} {n:Nat} {g:Operand} {ps:Array Tmp} {assign body:Code} {Q:Exit→Act→World→Prop} {a:Act} {w:World} (hro:F.round=none) (hd:F.depth=none)
  {gf:Nat} {lb:Array Value} (hg:a.eval g=.func (.func gf) #[] lb) (hFg:F.fn gf) (eg:∀args w,(callFunc gf args).run Tryz.prog w=.ok (.enter gf args) w) {xs:List (Nat×Ex)} {Nd:(Nat→Prop)→World→Prop} (hit:GoesOver F (n-1) gf lb xs Nd)
  (O:Nat→Prop) (hO:∀b,O b→b<w.heap.size) (hnd:∀(A:Nat→Prop) (W:World),(∀b,¬O b→b<w.heap.size→A b)→Below w.heap.size w W→Nd A W) (hps:ps.size=2)
  (I:List (Nat×Ex)→World→Prop) (Ix:Code→List (Nat×Ex)→World→Prop) (hI:OwnFrom w.heap.size I) (hIx:∀c,OwnFrom w.heap.size (Ix c)) (h0:I [] w) (Ax:Nat→Ex→Value→Act→World→Prop) (hAx:∀lv y v a',OwnFrom w.heap.size (fun (_:Unit) W=>Ax lv y v a' W))
  (hassign:∀(l:Nat) pre lv y v (W:World),I pre W→ExP W (fun b=>¬O b) y v→pre++[(lv,y)] <+: xs→assign.wpIn (F.inRound l) (n-1-1) Tryz.prog (Exit.then (fun a' W'=>Keep (fun b=>¬O b) W W'∧I pre W'∧Ax lv y v a' W') (fun _ _ _=>False)) { tmps:=(ps.zip #[.int .i64 ((lv:Nat):Int),v]).foldl (fun t (p,v)=>t.setIfInBounds p v) a.tmps,defers:=[] } W)
  (hbody:∀(l:Nat) pre lv y v a' (W:World),I pre W→Ax lv y v a' W→ExP W (fun b=>¬O b) y v→pre++[(lv,y)] <+: xs→body.wpIn (F.inRound l) (n-1-1) Tryz.prog (roundEnd O I Ix (pre++[(lv,y)]) W) a' W)
  (hdone:∀(D:Nat) (W:World),w.heap.size≤D→I xs W→Keep (fun b=>¬O b) w W→W.heap[D]?=some (.deferred (some []))→Q .normal { a with defers:={ target:=.collected D,args:=#[] }::a.defers } W)
  (hstop:∀(D:Nat) (c:Code) pre (W:World),w.heap.size≤D→pre <+: xs→Ix c pre W→Keep (fun b=>¬O b) w W→W.heap[D]?=some (.deferred (some []))→c.wpIn F n Tryz.prog Q { a with defers:={ target:=.collected D,args:=#[] }::a.defers } W) :
  (Code.rangeFunc g ps assign body).wpIn F n Tryz.prog Q a w:=by
 refine wpIn_rangeFunc fun fn hfn=>?_
 rw[hro]
 obtain ⟨R,hR⟩:∃R:LoopState→Option Code→Obj,R=fun st j=>.loop { state:=st,pending:=j,fn,tmps:=a.tmps,params:=ps,assign,body,defers:=w.heap.size }:=⟨_,rfl⟩
 obtain ⟨L,hL⟩:∃L,L=w.heap.size+1:=⟨_,rfl⟩
 obtain ⟨W1,hW1⟩:∃W1,W1=(w.alloc (.deferred (some []))).alloc (R .ready none):=⟨_,rfl⟩
 have hal:Below w.heap.size w W1:=by rw[hW1]; exact ((ZR _ w).alloc (Nat.le_refl _) _).alloc (by simp) _
 have hsz:W1.heap.size=w.heap.size+2:=by rw[hW1]; simp
 have hl1:W1.heap[L]?=some (R .ready none):=by
  have h:=World.alloc_heap_new (w.alloc (.deferred (some []))) (R .ready none)
  rwa[World.size_alloc,←hW1,←hL] at h
 have hk1:W1.heap[w.heap.size]?=some (.deferred (some [])):=by rw[hW1]; exact (Below.heap_alloc _ _ _ (by simp)).trans (World.alloc_heap_new w _)
 refine ⟨L,[{ target:=.collected w.heap.size,args:=#[] }],W1,{ target:=.fn (.func gf) lb,args:=#[.func (.yield L) #[] #[]] },W1,gf,#[.func (.yield L) #[] #[]]++lb,W1,?_,?_,?_,?_,(fun h=>by rw[hd] at h; cases h),?_⟩
 ·rw[hW1,hR,hL]; exact run_enterLoop_outer _ _ _ _ _
 ·simp only[resolve,hg]
  simp[go_sem]
 ·intro f' hf'
  simp[Target.leads] at hf'
  subst hf'
  exact hFg
 ·simp[invoke,go_sem,eg]
 have hown:∀{X Y:World} {row:Option Nat} {k:Nat} {o:Obj},X.grownBy Y row→(∀r,row=some r→W1.heap.size≤r∧∃o:Obj,X.heap[r]?=some o∧o.isCells=false)→k<W1.heap.size→X.heap[k]?=some o→Y.heap[k]?=some o:=fun hgr hr hk hx=>
  (hgr.block _ (Array.getElem?_eq_some_iff.1 hx).1 (fun e=>by have:=(hr _ e.symm).1; omega)).trans hx
 have hnew:∀{X:World} {row:Option Nat},(∀r,row=some r→W1.heap.size≤r∧∃o:Obj,X.heap[r]?=some o∧o.isCells=false)→(∀r,row=some r→w.heap.size≤r∧∃o:Obj,X.heap[r]?=some o∧o.isCells=false):=fun hr r e=>⟨by have:=(hr r e).1; omega,(hr r e).2⟩
 have hnO:∀b,w.heap.size≤b→¬O b:=fun b hb h=>by have:=hO b h; omega
 have hRc:∀st j,(R st j).isCells=false:=fun st j=>by rw[hR]; rfl
 refine (hit L (fun pre W=>I pre W∧W.heap[L]?=some (R .ready none)∧W.heap[w.heap.size]?=some (.deferred (some [])))
  (fun pre W=>∃c,Ix c pre W∧W.heap[L]?=some (R .done (some c))∧W.heap[w.heap.size]?=some (.deferred (some [])))
  (fun b=>¬O b∧b≠L) W1 (hnd _ _ (fun b h1 h2=>⟨h1,by omega⟩) hal) (fun b hb=>⟨hnO b (by omega),by omega⟩) ?j1 ?j2 ?round ⟨by rw[hW1]; exact hI.alloc _ (hI.alloc _ h0),hl1,hk1⟩).mono ?last
 case j1=>
  intro s X Y row hs hgr hr
  exact ⟨hI s X Y row hs.1 hgr (hnew hr),hown hgr hr (by omega) hs.2.1,hown hgr hr (by omega) hs.2.2⟩
 case j2=>
  intro s X Y row hs hgr hr
  obtain ⟨c,hc,hx,hy⟩:=hs
  exact ⟨c,hIx c s X Y row hc hgr (hnew hr),hown hgr hr (by omega) hx,hown hgr hr (by omega) hy⟩
 case round=>
  rintro m pre lv y v W ⟨hi,hl,hk⟩ hx hpre
  have hy:=run_yield (P:=Tryz.prog) (args:=#[.int .i64 ((lv:Nat):Int),v]) (l:=L) (r:={ state:=.ready,pending:=none,fn,tmps:=a.tmps,params:=ps,assign,body,defers:=w.heap.size }) (w:=W) (by rw[hl,hR]) (by rw[hps]; rfl)
  refine ⟨fn,_,assign,body,hy,round_any hd (roundIn_of_wpIn (n:=n-1-1) hfn (wpIn_mono (hassign L pre lv y v W hi (hx.mono fun b hb _=>hb.1) hpre) ?_))⟩
  clear hy
  rintro e a' Wa hp
  cases e with
  | normal=>
   obtain ⟨hka,hia,hax⟩:=hp
   have hla:=hka.same (hnO L (by omega)) hl
   have hda:=hka.same (hnO _ (Nat.le_refl _)) hk
   have hbg:=run_beginRound (P:=Tryz.prog) (l:=L) (w:=Wa) (r:={ state:=.ready,pending:=none,fn,tmps:=a.tmps,params:=ps,assign,body,defers:=w.heap.size }) (by rw[hla,hR]) rfl
   rw[show (Obj.loop { state:=.busy,pending:=none,fn,tmps:=a.tmps,params:=ps,assign,body,defers:=w.heap.size }:Obj)=R .busy none by rw[hR]] at hbg
   refine ⟨_,hbg,?_⟩
   obtain ⟨Wb,hWb⟩:∃Wb,Wb=Wa.putObj L (R .busy none):=⟨_,rfl⟩
   rw[←hWb]
   have hlb:Wb.heap[L]?=some (R .busy none):=by rw[hWb]; exact World.putObj_heap_same (Array.getElem?_eq_some_iff.1 hla).1
   have hdb:Wb.heap[w.heap.size]?=some (.deferred (some [])):=by rw[hWb]; exact (World.putObj_heap_other (by omega)).trans hda
   have hib:I pre Wb:=by rw[hWb]; exact hI.putObj _ hia (by omega) hla (hRc _ _)
   have hab:Ax lv y v a' Wb:=by rw[hWb]; exact (hAx lv y v a').putObj (s:=()) _ hax (by omega) hla (hRc _ _)
   have hkb:Keep (fun b=>¬O b∧b≠L) W Wb:=(hka.weak fun b hb=>hb.1).trans (by rw[hWb]; exact (keep_put _ _ _).weak fun b hb=>hb.2)
   refine wpIn_mono (hbody L pre lv y v a' Wb hib hab ((hx.keep hkb).mono fun b hb _=>hb.1) hpre) ?_
   have fin:∀(j:Option Code) (W3:World),Keep (fun b=>¬O b) Wb W3→∃W4,(Instr.endRound L j).run Tryz.prog W3=.ok (.bool j.isNone) W4∧W4=W3.putObj L (R (if j.isNone then .ready else .done) j)∧W3.heap[L]?=some (R .busy none)∧W4.heap[L]?=some (R (if j.isNone then .ready else .done) j)∧W4.heap[w.heap.size]?=some (.deferred (some []))∧Keep (fun b=>¬O b∧b≠L) W W4:=fun j W3 hk3=>by
    have hl3:=hk3.same (hnO L (by omega)) hlb
    have hd3:=hk3.same (hnO _ (Nat.le_refl _)) hdb
    have he:=run_endRound (P:=Tryz.prog) (l:=L) (w:=W3) (r:={ state:=.busy,pending:=none,fn,tmps:=a.tmps,params:=ps,assign,body,defers:=w.heap.size }) j (by rw[hl3,hR])
    rw[show (Obj.loop { state:=if j.isNone then .ready else .done,pending:=j,fn,tmps:=a.tmps,params:=ps,assign,body,defers:=w.heap.size }:Obj)=R (if j.isNone then .ready else .done) j by rw[hR]] at he
    exact ⟨_,he,rfl,hl3,World.putObj_heap_same (Array.getElem?_eq_some_iff.1 hl3).1,(World.putObj_heap_other (by omega)).trans hd3,(hkb.trans (hk3.weak fun b hb=>hb.1)).trans ((keep_put _ _ _).weak fun b hb=>hb.2)⟩
   rintro e a3 W3 hp
   cases e with
   | normal=>
    obtain ⟨W4,hr,rfl,hl3,hl4,hd4,hk4⟩:=fin none W3 hp.1
    exact ⟨_,_,hr,hk4,.inl ⟨rfl,hI.putObj _ hp.2 (by omega) hl3 (hRc _ _),hl4,hd4⟩⟩
   | ret=>
    obtain ⟨W4,hr,rfl,hl3,hl4,hd4,hk4⟩:=fin (some .ret) W3 hp.1
    exact ⟨_,_,hr,hk4,.inr ⟨rfl,.ret,(hIx _).putObj _ hp.2 (by omega) hl3 (hRc _ _),hl4,hd4⟩⟩
   | exit id=>
    obtain ⟨W4,hr,rfl,hl3,hl4,hd4,hk4⟩:=fin (some (.exit id)) W3 hp.1
    exact ⟨_,_,hr,hk4,.inr ⟨rfl,.exit id,(hIx _).putObj _ hp.2 (by omega) hl3 (hRc _ _),hl4,hd4⟩⟩
   | goto t=>
    obtain ⟨W4,hr,rfl,hl3,hl4,hd4,hk4⟩:=fin (some (.goto t)) W3 hp.1
    exact ⟨_,_,hr,hk4,.inr ⟨rfl,.goto t,(hIx _).putObj _ hp.2 (by omega) hl3 (hRc _ _),hl4,hd4⟩⟩
   | panic ch=>exact hp.elim
   | outgrown=>exact hp.elim
  | ret=>exact hp.elim
  | exit id=>exact hp.elim
  | goto t=>exact hp.elim
  | panic ch=>exact hp.elim
  | outgrown=>exact hp.elim
 case last=>
  rintro e W2 ⟨⟨v,rfl⟩,hkp,(⟨hi,hl,hk⟩ | ⟨pre,hpre,c,hi,hl,hk⟩)⟩
  ·have he:=run_endLoop (P:=Tryz.prog) (l:=L) (w:=W2) (r:={ state:=.ready,pending:=none,fn,tmps:=a.tmps,params:=ps,assign,body,defers:=w.heap.size }) (by rw[hl,hR]) (by simp)
   refine ⟨none,_,he,hdone _ _ (Nat.le_refl _) (hI.putObj _ hi (by omega) hl (hRc _ _)) ?_ ((World.putObj_heap_other (by omega)).trans hk)⟩
   exact ⟨by have h1:=hal.size; have h2:=hkp.1; simp; omega,fun b hb hlt=>(World.putObj_heap_other (by omega)).trans ((hkp.2 b ⟨hb,by omega⟩ (by omega)).trans (hal.block b hlt))⟩
  ·have he:=run_endLoop (P:=Tryz.prog) (l:=L) (w:=W2) (r:={ state:=.done,pending:=some c,fn,tmps:=a.tmps,params:=ps,assign,body,defers:=w.heap.size }) (by rw[hl,hR]) (by simp)
   refine ⟨some c,_,he,hstop _ c pre _ (Nat.le_refl _) hpre ((hIx c).putObj _ hi (by omega) hl (hRc _ _)) ?_ ((World.putObj_heap_other (by omega)).trans hk)⟩
   exact ⟨by have h1:=hal.size; have h2:=hkp.1; simp; omega,fun b hb hlt=>(World.putObj_heap_other (by omega)).trans ((hkp.2 b ⟨hb,by omega⟩ (by omega)).trans (hal.block b hlt))⟩
def Marks (B:Nat):Nat→List Deferred→World→Prop
 | _,[],_=>True
 | U,d::ds,w=>∃D,d = { target:=.collected D,args:=#[] }∧B≤D∧D<U∧w.heap[D]?=some (.deferred (some []))∧Marks B D ds w
theorem Marks.up {B:Nat}:∀{ds:List Deferred} {U V:Nat} {w:World},Marks B U ds w→U≤V→Marks B V ds w
 | [],_,_,_,_,_=>trivial
 | _::_,_,_,_,⟨D,e,h1,h2,h3,h4⟩,h=>⟨D,e,h1,by omega,h3,h4⟩
theorem Marks.keep {B:Nat} {P:Nat→Prop} {w w':World} (hk:Keep P w w') (hP:∀b,B≤b→P b):∀{ds:List Deferred} {U:Nat},Marks B U ds w→Marks B U ds w'
 | [],_,_=>trivial
 | _::_,_,⟨D,e,h1,h2,h3,h4⟩=>⟨D,e,h1,h2,hk.same (hP D h1) h3,Marks.keep hk hP h4⟩
theorem Marks.put {B:Nat} {w:World} {l:Nat} {o:Obj}:∀{ds:List Deferred} {U:Nat},U≤l→Marks B U ds w→Marks B U ds (w.putObj l o)
 | [],_,_,_=>trivial
 | _::_,_,hl,⟨D,e,h1,h2,h3,h4⟩=>⟨D,e,h1,h2,(World.putObj_heap_other (by omega)).trans h3,Marks.put (by omega) h4⟩
theorem leaves_marks {F:Fence} {n:Nat} {P:Program} {fn:Func} {tmps:Array Value} {R:Ending→World→Prop} {X:World→Prop} {B:Nat}
  (hX:∀(w:World) (D:Nat),B≤D→w.heap[D]?=some (.deferred (some []))→X w→X (w.putObj D (.deferred none))) (hend:∀w,X w→LeavesIn F n P fn tmps R [] .returning w) :
  ∀{ds:List Deferred} {U:Nat} {w:World},Marks B U ds w→X w→LeavesInM F n P fn tmps R ds .returning w
 | [],_,_,_,hx=>hend _ hx
 | _::_,_,_,⟨D,rfl,h1,h2,h3,h4⟩,hx=>⟨by simp,.inl ⟨D,_,rfl,run_takeDeferred h3,leaves_marks hX hend (h4.put (Nat.le_refl _)) (hX _ D h1 h3 hx)⟩⟩
end Go.Proofs.YtdcaaehapdhckaaGreatDoor
