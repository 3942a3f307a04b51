/- The iterator over the expressions inside an expression. -/
import Derived.RangeFuncCalls
import Derived.RangeFuncBound
import Derived.Shelf.Abstract
import Derived.Shelf.RegionOpen
import Derived.WalkKit
import Derived.OwnWalkIn
import Derived.TacticsInMore
import Derived.LoopNIn
import Derived.LoopIn
import Derived.Sort.CutIn
import Derived.Test.YtdcaaehapdhckaaGreatDoorEC
import Derived.Test.YtdcaaehapdhckaaGreatDoorKN
set_option linter.unusedSimpArgs false
set_option linter.unusedVariables false
set_option maxRecDepth 100000
namespace Go.Proofs.YtdcaaehapdhckaaGreatDoor
open Go.RowKit Go.Num Go.Flow Go.Shelf
attribute [local go_sem] Oper.semAt_some
set_option maxHeartbeats 8000000

theorem nodes_any (w:World) (v0 v1 v2 v3 v4:Value) (lev:Int):Calls Tryz.prog 43 #[.agg #[v0,v1,v2,v3,v4],.int .i64 lev] w fun e w'=>
  e=.returned (.func (.func 86) #[] #[.pointer (some ⟨w.heap.size+1,0,none⟩),.pointer (some ⟨w.heap.size,0,none⟩)])∧w'=(w.alloc (.cells #[v0,v1,v2,v3,v4] 30)).alloc (.cells #[.int .i64 lev] 3):=by
 go_enter Tryz.func43,Tryz.ntmps43
 go_wp2_with fail
 go_ret
 exact ⟨rfl,rfl⟩
theorem nodesL_pre (lev:Nat):∀(l:List Ex) (k:Nat),nodesL lev (l.take k) <+: nodesL lev l
 | [],k=>by simp[nodesL]
 | x::l,0=>by simp[nodesL]
 | x::l,k+1=>by
  rw[List.take_succ_cons,nodesL,nodesL]
  exact (List.prefix_append_right_inj _).2 (nodesL_pre lev l k)
theorem round_in {F:Fence} {m:Nat} {P:Program} {l:Nat} {f:FuncId} {tmps:Array Value} {assign body:Code} {w:World} {R:Ending→World→Prop} (l':Nat) (h:RoundIn F m P l f tmps assign body w R):RoundIn (F.inRound l') m P l f tmps assign body w R:=h
theorem meas_lt {n k:Nat} (h:k<n):n-((k:Int)+1).toNat<n-((k:Int)).toNat:=by omega
theorem lt_of_block' {w:World} {b:Nat} {o:Obj} (h:w.heap[b]?=some o):b<w.heap.size:=(Array.getElem?_eq_some_iff.1 h).1
def NodeNd (x:Ex) (lev bl bx:Nat) (A:Nat→Prop) (W:World):Prop:=A bl∧A bx∧W.heap[bl]?=some (.cells #[.int .i64 (lev:Int)] 3 (0,0))∧∃v0 v1 v2 v3 v4,W.heap[bx]?=some (.cells #[v0,v1,v2,v3,v4] 30 (0,0))∧ExP W A x (.agg #[v0,v1,v2,v3,v4])
theorem nodes1_in : ∀(k:Nat) (x:Ex) (lev n bl bx:Nat),depE x≤k→lev+k≤1000000→GoesOver Fence.wide n 86 #[.pointer (some ⟨bl,0,none⟩),.pointer (some ⟨bx,0,none⟩)] (nodesE lev x) (NodeNd x lev bl bx)
 | 0,x,_,_,_,_,hd,_=>by rw[depE_eq] at hd; omega
 | k+1,x,lev,n,bl,bx,hd,hlev=>by
  intro l J Jx A W ⟨hAl,hAx,hkl,v0,v1,v2,v3,v4,hkx,hex⟩ hA hJ hJx hY h0
  rw[nodesE_eq] at hY⊢
  refine callsIn_of_wp_marks Tryz.func86 rfl trivial ?_ rfl
  simp only[Tryz.ntmps86,List.size_toArray,List.length_cons,List.length_nil,Nat.reduceAdd,Nat.reduceSub,Array.replicate_succ,Array.replicate_zero,List.push_toArray,List.append_toArray,List.nil_append,List.cons_append]
  gi_upto_region 1 with fail
  obtain ⟨W1,by',hW1,hby,hl1,k1⟩:=new_box W #[.func (.yield l) #[] #[]] 124
  rw[←hW1,←hby]
  have hk1:Keep A W W1:=Keep.of_below hl1
  have hJ1:J [] W1:=by rw[hW1]; exact hJ.alloc _ h0
  have hkl1:=hk1.same hAl hkl
  have hkx1:=hk1.same hAx hkx
  have hex1:=hex.keep hk1
  have hAy:A by':=hA _ (by omega)
  have c0:=ZI k1 0
  have c1:=ZI hkl1 0
  obtain ⟨x0,x1,x2,x3,x4⟩:=cells5 (ZR _ W1) hkx1
  simp at c0 c1
  obtain ⟨fn,tmps,assign,body,hy,hR⟩:=hY (n-1) [] lev x (.agg #[v0,v1,v2,v3,v4]) W1 hJ1 hex1 ⟨nodesL (lev+1) x.a,rfl⟩
  clear hW1 hby
  gi_wp2
  refine ⟨fun h=>absurd h (by simp[Fence.wide]),hR.mono ?_⟩
  clear hR hy x0 x1 x2 x3 x4 c0 c1
  rintro e W2 ⟨hk2,(⟨rfl,hj2⟩ | ⟨rfl,hx2⟩)⟩
  case inr=>
   gi_wp2
   refine ⟨_,results_none rfl _ _ _,⟨_,rfl⟩,hk1.trans hk2,.inr ⟨_,⟨nodesL (lev+1) x.a,rfl⟩,hx2⟩⟩
  have hkl2:=hk2.same hAl hkl1
  have hkx2:=hk2.same hAx hkx1
  have hky2:=hk2.same hAy k1
  have hex2:=hex1.keep hk2
  have hK2:=hk1.trans hk2
  obtain ⟨tv,ao,cap,e,ht,ha⟩:=hex2.out
  simp only[Value.agg.injEq] at e
  have e:=congrArg Array.toList e
  simp only[List.cons.injEq,and_true] at e
  obtain ⟨rfl,rfl,rfl,rfl,rfl⟩:=e
  obtain ⟨x0,x1,x2,x3,x4⟩:=cells5 (ZR _ W2) hkx2
  gi_wp2
  clear x0 x1 x2 x3 x4
  refine wpIn_loop (fun a' w'=>∃(kk:Nat) (ds:List Deferred) (u5 u6 u7 u17 u18 u19 u20 u21 u22 u23 u24 u25 u26 u27 u28 u29 u30 u31:Value),kk≤x.a.length∧a' = { tmps:=#[Value.func (Fn.yield l) #[] #[],Value.pointer (some ⟨bl,0,none⟩),Value.pointer (some ⟨bx,0,none⟩),Value.pointer (some ⟨by',0,none⟩),undef,u5,u6,u7,Value.func (Fn.yield l) #[] #[],Value.int IntKind.i64 (lev:Int),Value.agg #[Value.int IntKind.i64 x.op,Value.string { data:=x.c.toArray },v2,Value.string { data:=x.f.toArray },Value.slice ao x.a.length cap],Value.bool true,Value.bool false,Value.pointer (some ⟨bx,4,none⟩),Value.slice ao x.a.length cap,Value.int IntKind.i64 (x.a.length:Int),Value.int IntKind.i64 (kk:Int),u17,u18,u19,u20,u21,u22,u23,u24,u25,u26,u27,u28,u29,u30,u31],defers:=ds }∧J ((lev,x)::nodesL (lev+1) (x.a.take kk)) w'∧Keep A W2 w'∧Marks W.heap.size w'.heap.size ds w') (fun a' _=>x.a.length-(intOf (a'.tmps.getD 16 undef)).toNat) ?start ?round
  case start=>exact ⟨0,[],_,_,_,_,_,_,_,_,_,_,_,_,_,_,_,_,_,_,Nat.zero_le _,rfl,by rw[List.take_zero,nodesL]; exact hj2,Keep.refl _ _,trivial⟩
  case round=>
   rintro a' w' ⟨kk,ds,u5,u6,u7,u17,u18,u19,u20,u21,u22,u23,u24,u25,u26,u27,u28,u29,u30,u31,hkk,rfl,hJw,hKw,hM⟩
   have hky:=hKw.same hAy hky2
   have hkl':=hKw.same hAl hkl2
   by_cases hlt:kk<x.a.length
   ·have e1:((kk:Int)<(x.a.length:Int))=True:=eq_true (by omega)
    obtain ⟨_,_,he,hdc1,hdc2,hcx⟩:=ha
    simp only[Value.slice.injEq] at he
    obtain ⟨rfl,-,rfl⟩:=he
    have hdc:x.a.length≤9223372036854775807:=by unfold maxLen at hdc2; omega
    clear hdc1 hdc2
    obtain ⟨g,og,rfl,hAg,hg,hcc⟩:=hcx (by omega)
    obtain ⟨a0,a1,a2,a3,a4,d0,d1,d2,d3,d4,hak⟩:=hcc.at (j:=kk) hlt
    have hgk:=hKw.2 g hAg hg
    replace d0:=cell_keep hgk d0
    replace d1:=cell_keep hgk d1
    replace d2:=cell_keep hgk d2
    replace d3:=cell_keep hgk d3
    replace d4:=cell_keep hgk d4
    replace hak:=hak.keep hKw
    have hi0:(0:Int)≤(kk:Int):=by omega
    have hi1:(kk:Int)<(x.a.length:Int):=by omega
    obtain ⟨utv,ua,uc,e,htk,-⟩:=hak.out
    simp only[Value.agg.injEq] at e
    have e:=congrArg Array.toList e
    simp only[List.cons.injEq,and_true] at e
    obtain ⟨rfl,rfl,rfl,rfl,rfl⟩:=e
    obtain ⟨uta,utc,rfl,-⟩:=htk
    obtain ⟨y,hy⟩:∃y,y=x.a.getD kk Ex.none:=⟨_,rfl⟩
    rw[←hy] at d0 d1 d2 d3 d4 hak
    have hyd:depE y≤k:=by have:=depL_at hlt; rw[←hy] at this; rw[depE_eq] at hd; omega
    have HY:=ZH hy
    have hcat:nodesL (lev+1) (x.a.take (kk+1))=nodesL (lev+1) (x.a.take kk)++nodesE (lev+1) y:=by rw[nodesL_take (lev+1) hlt,←hy]
    have hsuf:nodesL (lev+1) (x.a.take (kk+1)) <+: nodesL (lev+1) x.a:=nodesL_pre _ _ _
    rw[hcat] at hsuf
    have HCAT:=ZH (ZN hcat hsuf)
    clear hy hcat hsuf
    obtain ⟨uo,huo⟩:∃q,q=y.op:=⟨_,rfl⟩
    obtain ⟨us0,hus0⟩:∃s:ByteArray,s=⟨y.c.toArray⟩:=⟨_,rfl⟩
    obtain ⟨us1,hus1⟩:∃s:ByteArray,s=⟨y.f.toArray⟩:=⟨_,rfl⟩
    obtain ⟨utn,hutn⟩:∃q,q=y.t.length:=⟨_,rfl⟩
    obtain ⟨uan,huan⟩:∃q,q=y.a.length:=⟨_,rfl⟩
    rw[←huo,←hus0,←hutn,←hus1,←huan] at hak
    rw[←huo] at d0
    rw[←hus0] at d1
    rw[←hutn] at d2
    rw[←hus1] at d3
    rw[←huan] at d4
    clear huo hus0 hus1 hutn huan
    gi_upto_region 5 with fail
    obtain ⟨w4,b5,hw4,hb5,hl4,k4⟩:=new_box w' #[.int .i64 uo,.string us0,.slice uta utn utc,.string us1,.slice ua uan uc] 30
    rw[←hw4,←hb5]
    obtain ⟨y0,y1,y2,y3,y4⟩:=cells5 (ZR _ w4) k4
    have c1:=cells1 hl4 hkl'
    have hwr:IntKind.i64.wrap ((lev:Int)+1)=((lev+1:Nat):Int):=by rw[IntWalk.i64_in _ (by omega)]; omega
    have hwr2:wrap64 ((lev:Int)+1)=((lev+1:Nat):Int):=by rw[IntWalk.wrap64_in _ (by omega)]; omega
    have HB5:=ZH hb5
    have hJ4:J ((lev,x)::nodesL (lev+1) (x.a.take kk)) w4:=by rw[hw4]; exact hJ.alloc _ hJw
    clear d0 d1 d2 d3 d4 hi0 hi1 e1 hgk hcc hcx hg hAg hw4 hb5
    gi_wp2_with (refine ⟨trivial,?_⟩; (try refine ⟨fun h=>absurd h (by simp[Fence.wide]),?_⟩); gi_at_call 43; refine (callsIn_wide.2 (nodes_any _ _ _ _ _ _ _)).mono ?_; rintro e w5 ⟨rfl,rfl⟩)
    obtain ⟨w5,bxn,bln,hw5,hbxn,hbln,hl5,kxn,kln⟩:=new_two w4 #[.int .i64 uo,.string us0,.slice uta utn utc,.string us1,.slice ua uan uc] #[.int .i64 ((lev:Int)+1)] 30 3
    rw[←hw5,←hbln,←hbxn]
    have hKA:∀{u z:World},Below u.heap.size u z→Keep A u z:=fun h=>Keep.of_below h
    have hKT:∀{u z:World},Below u.heap.size u z→Keep (fun _=>True) u z:=fun h=>Keep.of_below h
    have hkw:=hKw.trans ((hKA hl4).trans (hKA hl5))
    have hs0:=hK2.1
    have hs1:=hKw.1
    have hs4:=hl4.size
    have hs5:=hl5.size
    have hM5:=((hM.keep (hKT hl4) (fun _ _=>trivial)).keep (hKT hl5) (fun _ _=>trivial)).up (Nat.le_trans hs4 hs5)
    have hak5:=(hak.keep (hKA hl4)).keep (hKA hl5)
    have hJ5:J ((lev,x)::nodesL (lev+1) (x.a.take kk)) w5:=by rw[hw5]; exact hJ.alloc _ (hJ.alloc _ hJ4)
    have hky5:=((hKA hl4).trans (hKA hl5)).same hAy hky
    have hAn:∀b,w5.heap.size≤b→A b:=fun b hb=>hA b (by omega)
    have hAO:∀b,¬(¬A b∧b<w5.heap.size)→A b:=fun b hb=>by
     by_cases h1:A b
     ·exact h1
     ·exact hAn b (Nat.le_of_not_lt fun h3=>hb ⟨h1,h3⟩)
    have hup:∀{I:List (Nat×Ex)→World→Prop} {B B':Nat},OwnFrom B I→B≤B'→OwnFrom B' I:=fun h hle s X Y row hs hg hr=>h s X Y row hs hg fun r e=>⟨Nat.le_trans hle (hr r e).1,(hr r e).2⟩
    have hkO:∀{B:World},OwnFrom B.heap.size (fun (_:List (Nat×Ex)) Z=>Keep A B Z):=fun s X Y row hs hg hr=>⟨Nat.le_trans hs.1 hg.size,fun b hb hlt=>(hg.block b (Nat.lt_of_lt_of_le hlt hs.1) (fun e=>by have:=(hr b e.symm).1; omega)).trans (hs.2 b hb hlt)⟩
    have HBX:=ZH (show W.heap.size≤bln∧W.heap.size≤bxn by omega)
    clear hw5 hwr hwr2 c1 y0 y1 y2 y3 y4 hbxn hbln
    refine wpIn_nodes (F:=Fence.wide) rfl rfl rfl trivial (enters_of Tryz.func86 (by kernel_rfl) rfl) (nodes1_in k y (lev+1) (n-1) bln bxn hyd (by omega)) (fun b=>¬A b∧b<w5.heap.size) (fun b h=>h.2) ?nd rfl
     (fun pre W'=>J ((lev,x)::(nodesL (lev+1) (x.a.take kk)++pre)) W'∧Keep A w5 W')
     (fun c pre W'=>c=.ret∧Jx ((lev,x)::(nodesL (lev+1) (x.a.take kk)++pre)) W'∧Keep A w5 W') ?oi ?ox ⟨by rw[List.append_nil]; exact hJ5,Keep.refl _ _⟩
     (fun lv z v a' W'=>∃(B7:Nat) (q0 q1 q2 q3 q4:Value),w5.heap.size≤B7∧v=.agg #[q0,q1,q2,q3,q4]∧W'.heap[B7]?=some (.cells #[q0,q1,q2,q3,q4] 30 (0,0))∧a' = { tmps:=#[Value.func (Fn.yield l) #[] #[],Value.pointer (some ⟨bl,0,none⟩),Value.pointer (some ⟨bx,0,none⟩),Value.pointer (some ⟨by',0,none⟩),undef,Value.pointer (some ⟨b5,0,none⟩),Value.int IntKind.i64 ((lv:Nat):Int),Value.pointer (some ⟨B7,0,none⟩),Value.func (Fn.yield l) #[] #[],Value.int IntKind.i64 (lev:Int),Value.agg #[Value.int IntKind.i64 x.op,Value.string { data:=x.c.toArray },v2,Value.string { data:=x.f.toArray },Value.slice (some ⟨g,og,none⟩) x.a.length cap],Value.bool true,Value.bool false,Value.pointer (some ⟨bx,4,none⟩),Value.slice (some ⟨g,og,none⟩) x.a.length cap,Value.int IntKind.i64 (x.a.length:Int),Value.int IntKind.i64 (kk:Int),Value.bool true,Value.pointer (some ⟨g,og+kk*5,none⟩),Value.agg #[.int .i64 uo,.string us0,.slice uta utn utc,.string us1,.slice ua uan uc],Value.agg #[.int .i64 uo,.string us0,.slice uta utn utc,.string us1,.slice ua uan uc],Value.int IntKind.i64 (lev:Int),Value.int IntKind.i64 ((lev:Int)+1),Value.func (Fn.func 86) #[] #[Value.pointer (some ⟨bln,0,none⟩),Value.pointer (some ⟨bxn,0,none⟩)],Value.int IntKind.i64 ((lv:Nat):Int),v,u26,u27,u28,u29,u30,u31],defers:=[] }) ?oa ?assign ?body ?done ?stop
    case nd=>
     intro A' W' h1 hb
     have k1:=(hb.block bln (ZL kln)).trans kln
     have k2:=(hb.block bxn (ZL kxn)).trans kxn
     rw[show ((lev:Int)+1)=((lev+1:Nat):Int) by omega] at k1
     exact ⟨h1 _ (fun h=>h.1 (hA _ HBX.out.1)) (ZL kln),h1 _ (fun h=>h.1 (hA _ HBX.out.2)) (ZL kxn),k1,_,_,_,_,_,k2,(hak5.mono fun b hb hlt=>h1 b (fun h=>h.1 hb) hlt).keep (Keep.of_below hb)⟩
    case oi=>exact OwnFrom.and (fun s X Y row hs hg hr=>hup hJ (by omega) _ X Y row hs hg hr) hkO
    case ox=>exact fun c=>OwnFrom.and (ownFrom_pure _ _) (OwnFrom.and (fun s X Y row hs hg hr=>hup hJx (by omega) _ X Y row hs hg hr) hkO)
    case oa=>
     rintro lv z v a' s X Y row ⟨B7,q0,q1,q2,q3,q4,h1,h2,h3,h4⟩ hg hr
     refine ⟨B7,q0,q1,q2,q3,q4,h1,h2,(hg.block B7 (ZL h3) (fun e=>?_)).trans h3,h4⟩
     obtain ⟨o,ho,hc⟩:=(hr B7 e.symm).2
     rw[h3] at ho
     cases ho
     cases hc
    case assign=>
     rintro l' pre lv z v W' ⟨hJp,hKp⟩ hz hpre
     obtain ⟨ztv,za,zc,rfl,hzt,-⟩:=id hz.out
     obtain ⟨zta,ztc,rfl,-⟩:=hzt
     obtain ⟨zo,hzo⟩:∃q,q=z.op:=⟨_,rfl⟩
     obtain ⟨zs0,hzs0⟩:∃s:ByteArray,s=⟨z.c.toArray⟩:=⟨_,rfl⟩
     obtain ⟨zs1,hzs1⟩:∃s:ByteArray,s=⟨z.f.toArray⟩:=⟨_,rfl⟩
     obtain ⟨ztn,hztn⟩:∃q,q=z.t.length:=⟨_,rfl⟩
     obtain ⟨zan,hzan⟩:∃q,q=z.a.length:=⟨_,rfl⟩
     rw[←hzo,←hzs0,←hzs1,←hztn,←hzan]
     have HSZ:=ZH hKp.1
     have HNEW:=ZH (show ∀(cs:Array Value),Keep (fun b=>¬(¬A b∧b<w5.heap.size)) W' (W'.alloc (.cells cs 30))∧(J ((lev,x)::(nodesL (lev+1) (x.a.take kk)++pre)) (W'.alloc (.cells cs 30))∧Keep A w5 (W'.alloc (.cells cs 30)))∧(W'.alloc (.cells cs 30)).heap[W'.heap.size]?=some (.cells cs 30 (0,0)) from fun cs=>by
      have h1:Below W'.heap.size W' (W'.alloc (.cells cs 30)):=(ZR _ W').alloc (Nat.le_refl _) _
      exact ⟨Keep.of_below h1,⟨hJ.alloc _ hJp,hKp.trans (Keep.of_below h1)⟩,ZW W' _⟩)
     clear hzo hzs0 hzs1 hztn hzan
     gi_wp2
     exact ⟨(HNEW.out _).1,(HNEW.out _).2.1,W'.heap.size,_,_,_,_,_,HSZ.out,rfl,(HNEW.out _).2.2,rfl⟩
    case body=>
     rintro l' pre lv z v a' W' ⟨hJp,hKp⟩ ⟨B7,q0,q1,q2,q3,q4,hB7,rfl,hk7,rfl⟩ hz hpre
     have c0:=ZI (hKp.same hAy hky5) 0
     simp at c0
     obtain ⟨z0,z1,z2,z3,z4⟩:=cells5 (ZR _ W') hk7
     have hpr:((lev,x)::(nodesL (lev+1) (x.a.take kk)++pre))++[(lv,z)] <+: (lev,x)::nodesL (lev+1) x.a:=by
      rw[List.cons_append,List.append_assoc]
      exact (List.prefix_cons_inj _).2 (((List.prefix_append_right_inj _).2 hpre).trans HCAT.out.2)
     have hass:((lev,x)::(nodesL (lev+1) (x.a.take kk)++pre))++[(lv,z)]=(lev,x)::(nodesL (lev+1) (x.a.take kk)++(pre++[(lv,z)])):=by rw[List.cons_append,List.append_assoc]
     obtain ⟨fn,tmps,assign,body,hy,hR⟩:=hY (n-1-1-1) ((lev,x)::(nodesL (lev+1) (x.a.take kk)++pre)) lv z (.agg #[q0,q1,q2,q3,q4]) W' hJp (hz.mono fun b hb _=>hAO b hb) hpr
     have hR2:=round_in l' hR
     have HKP:=ZH hKp
     have HASS:=ZH hass
     clear hR hpr hass hJp hKp hz hpre
     gi_wp2
     refine ⟨fun h=>absurd h (by simp[Fence.wide]),hR2.mono ?_⟩
     clear hR2 hy c0 z0 z1 z2 z3 z4
     rintro e W3 ⟨hk3,(⟨rfl,hj3⟩ | ⟨rfl,hx3⟩)⟩
     ·have HE:=ZH (ZN (hk3.weak hAO) (ZN (by rw[HASS.out] at hj3; exact hj3) (HKP.out.trans hk3)))
      clear hk3 hj3
      gi_wp2
      exact HE.out
     ·have HE:=ZH (ZN (hk3.weak hAO) (ZN (show Code.ret=Code.ret from rfl) (ZN (by rw[HASS.out] at hx3; exact hx3) (HKP.out.trans hk3))))
      clear hk3 hx3
      gi_wp2
      exact ⟨HE.out.1,rfl,HE.out.2.2⟩
    case done=>
     rintro D W' hD ⟨hJp,hKp⟩ hkw' hd'
     have HL:=ZH (ZN (hkw.trans hKp) (ZN (show J ((lev,x)::nodesL (lev+1) (x.a.take (kk+1))) W' by rw[HCAT.out.1]; exact hJp) (ZN (hM5.keep hKp hA) (ZN hD (ZN hd' hKp.1)))))
     have HLT:=ZH hlt
     have HCAP:=ZH (show (kk:Int)+1≤9223372036854775807 by have:=hdc; omega)
     have hwk:IntKind.i64.wrap ((kk:Int)+1)=((kk+1:Nat):Int):=by rw[IntWalk.i64_in _ (by have:=HCAP.out; omega)]; omega
     have hwk2:wrap64 ((kk:Int)+1)=((kk+1:Nat):Int):=by rw[IntWalk.wrap64_in _ (by have:=HCAP.out; omega)]; omega
     clear hJp hKp hkw' hd'
     gi_wp2
     refine ⟨⟨kk+1,{ target:=.collected D,args:=#[] }::ds,_,_,_,_,_,_,_,_,_,_,_,_,_,_,_,_,_,_,HLT.out,by push_cast; rfl,HL.out.2.1,HL.out.1,D,rfl,by have:=HL.out.2.2.2.1; omega,lt_of_block' HL.out.2.2.2.2.1,HL.out.2.2.2.2.1,HL.out.2.2.1.up HL.out.2.2.2.1⟩,?_⟩
     exact meas_lt HLT.out
    case stop=>
     rintro D c pre W' hD hpre ⟨rfl,hJp,hKp⟩ hkw' hd'
     have hpr:((lev,x)::(nodesL (lev+1) (x.a.take kk)++pre)) <+: (lev,x)::nodesL (lev+1) x.a:=(List.prefix_cons_inj _).2 (((List.prefix_append_right_inj _).2 hpre).trans HCAT.out.2)
     have hmk:Marks W.heap.size W'.heap.size ({ target:=.collected D,args:=#[] }::ds) W':=⟨D,rfl,by omega,lt_of_block' hd',hd',(hM5.keep hKp hA).up hD⟩
     have HE:=ZH (ZN hJp (ZN (hK2.trans (hkw.trans hKp)) (ZN hpr (ZN hmk hs0))))
     clear hJp hKp hkw' hd' hpr hmk
     gi_wp2
     refine leaves_marks (X:=fun Z=>Jx ((lev,x)::(nodesL (lev+1) (x.a.take kk)++pre)) Z∧Keep A W Z) (fun Z E h1 h2 h3=>⟨hJx.putObj _ h3.1 h1 h2 rfl,⟨by have:=h3.2.1; simp; omega,fun b hb hlt=>(World.putObj_heap_other (by omega)).trans (h3.2.2 b hb hlt)⟩⟩) (fun Z h=>⟨_,results_none rfl _ _ _,⟨_,rfl⟩,h.2,.inr ⟨_,HE.out.2.2.1,h.1⟩⟩) HE.out.2.2.2.1 ⟨HE.out.1,HE.out.2.1⟩
   ·have e1:((kk:Int)<(x.a.length:Int))=False:=eq_false (by omega)
    obtain rfl:kk=x.a.length:=by omega
    rw[List.take_length] at hJw
    have HE:=ZH (ZN hJw (ZN (hK2.trans hKw) hM))
    clear hJw hky hkl'
    gi_wp2
    exact leaves_marks (X:=fun Z=>J ((lev,x)::nodesL (lev+1) x.a) Z∧Keep A W Z) (fun Z E h1 h2 h3=>⟨hJ.putObj _ h3.1 h1 h2 rfl,⟨by have:=h3.2.1; simp; omega,fun b hb hlt=>(World.putObj_heap_other (by omega)).trans (h3.2.2 b hb hlt)⟩⟩) (fun Z h=>⟨_,results_none rfl _ _ _,⟨_,rfl⟩,h.2,.inl h.1⟩) HE.out.2.2 ⟨HE.out.1,HE.out.2.1⟩
end Go.Proofs.YtdcaaehapdhckaaGreatDoor

