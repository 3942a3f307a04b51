/- DimensionBounds: the walk and the plain law. -/
import Derived.Test.YtdgimcmappmjdaaGreatDoorK6
import Derived.Test.YtdgimcmappmjdaaGreatDoorKR
import Derived.Test.YtdgimcmappmjdaaGreatDoorPBoundsM
import Derived.Test.YtdgimcmappmjdaaGreatDoorMEvalM
import Derived.Test.YtdgimcmappmjdaaGreatDoorMNominalM
set_option linter.unusedSimpArgs false
set_option linter.unusedVariables false
set_option maxRecDepth 100000
namespace Go.Proofs.YtdgimcmappmjdaaGreatDoor
open List renaming setIfInBounds_toArray → zLa, set_cons_zero → zLb, set_cons_succ → zLc
open FlowR renaming putSel → zFp
open Act renaming put → zAp
open Nat renaming zero_add → zNz
open Go.RowKit Go.Num Go.Flow Go.Dtm
open Go.Gx (LF GEx eval dep Over bnd AllIn)
set_option maxHeartbeats 16000000
set_option linter.unusedVariables false

theorem cmpq_self (a:Rat):cmpQ a a=0:=by
 unfold cmpQ
 rw[if_neg (Rat.not_lt.2 Rat.le_refl)]
 exact if_neg (Rat.not_lt.2 Rat.le_refl)
theorem all_in : ∀{B:List (Rat×Rat)} {rs:List Rat},B.length=rs.length→(∀j,j<B.length→(B.getD j (0,0)).1≤rs.getD j 0∧rs.getD j 0≤(B.getD j (0,0)).2)→AllIn B rs
 | [],[],_,_=>by rw[AllIn]; trivial
 | [],_::_,h,_=>by simp at h
 | _::_,[],h,_=>by simp at h
 | p::B,r::rs,h,k=>by
  rw[AllIn]
  exact ⟨k 0 (by simp),all_in (by simpa using h) fun j hj=>k (j+1) (by simpa using hj)⟩
theorem boxes_len (D:List Dm):(boxes D).length=D.length:=by unfold boxes; simp
theorem bnd_ord {D:List Dm} (hO:∀j,j<D.length→(D.getD j Dm.none).lower≤(D.getD j Dm.none).upper) (y:GEx):(bnd (boxes D) y).1≤(bnd (boxes D) y).2:=by
 have h:AllIn (boxes D) ((boxes D).map (·.1)):=all_in (by simp) fun j hj=>by
  rw[boxes_len] at hj
  have h1:((boxes D).map (·.1)).getD j 0=((boxes D).getD j (0,0)).1:=by
   rw[List.getD_eq_getElem?_getD,List.getElem?_map,List.getD_eq_getElem?_getD,List.getElem?_eq_getElem (by rw[boxes_len]; exact hj)]
   rfl
  rw[h1,boxes_at hj]
  have h2:=hO j hj
  exact ⟨Rat.le_refl,Rat.intCast_le_intCast.2 (by omega)⟩
 have h2:=Go.Gx.bnd_in h y
 exact Rat.le_trans h2.1 h2.2
theorem part_in {a q:Rat} (ha:0≤a) (h0:0≤q) (h1:q≤255):0≤q/255*a∧q/255*a≤a:=by
 have e:(1:Rat)/255*255=1:=by grind
 have k0:0≤q/255:=by
  rw[Rat.div_def]
  exact Rat.mul_nonneg h0 (by decide +kernel)
 have k1:q/255≤1:=by
  have h2:q*(1/255:Rat)≤255*(1/255:Rat):=by
   have:=Rat.mul_le_mul_of_nonneg_left h1 (show (0:Rat)≤1/255 by decide +kernel)
   grind
  have h3:(255:Rat)*(1/255)=1:=by decide +kernel
  rw[h3] at h2
  rw[Rat.div_def]
  rw[Rat.div_def,Rat.one_mul] at h2
  exact h2
 refine ⟨Rat.mul_nonneg k0 ha,?_⟩
 have h4:=Rat.mul_le_mul_of_nonneg_left k1 ha
 grind
theorem pt_in {D:List Dm} (hO:∀j,j<D.length→(D.getD j Dm.none).lower≤(D.getD j Dm.none).upper) {n0 n1 n2 n3:Int} (hq:(0≤n0∧n0≤255)∧(0≤n1∧n1≤255)∧(0≤n2∧n2≤255)∧(0≤n3∧n3≤255)):AllIn (boxes D) (ptTo D (n0,n1,n2,n3) D.length):=by
 refine all_in (by rw[boxes_len,ptTo_len]) fun j hj=>?_
 rw[boxes_len] at hj
 have e:(ptTo D (n0,n1,n2,n3) D.length).getD j 0=ptAt D (n0,n1,n2,n3) j:=by
  unfold ptTo
  rw[List.getD_eq_getElem?_getD,List.getElem?_map,List.getElem?_eq_getElem (by rw[List.length_range]; exact hj)]
  simp
 rw[e,boxes_at hj]
 unfold ptAt
 have hp:0≤partQ (n0,n1,n2,n3) j∧partQ (n0,n1,n2,n3) j≤255:=by
  unfold partQ
  simp only
  split
  ·exact hq.1
  ·split
   ·exact hq.2.1
   ·split
    ·exact hq.2.2.1
    ·exact hq.2.2.2
 obtain ⟨q,hqe⟩:∃q,q=partQ (n0,n1,n2,n3) j:=⟨_,rfl⟩
 rw[←hqe] at hp⊢
 obtain ⟨d,hd⟩:∃d,d=D.getD j Dm.none:=⟨_,rfl⟩
 have h2:=hO j hj
 rw[←hd] at h2⊢
 have h3:=part_in (a:=((d.upper-d.lower:Int):Rat)) (q:=(q:Rat)) (by have:((0:Int):Rat)≤((d.upper-d.lower:Int):Rat):=Rat.intCast_le_intCast.2 (by omega); simpa using this) (by have:((0:Int):Rat)≤(q:Rat):=Rat.intCast_le_intCast.2 hp.1; simpa using this) (by have:(q:Rat)≤((255:Int):Rat):=Rat.intCast_le_intCast.2 hp.2; simpa using this)
 have h4:((d.nominal+d.upper:Int):Rat)=((d.nominal+d.lower:Int):Rat)+((d.upper-d.lower:Int):Rat):=by rw[←Rat.intCast_add]; congr 1; omega
 have h5:(((255:Int):Rat))=255:=by norm_cast
 rw[h5,h4]
 constructor<;>grind
theorem DimsIn.take {w:World} {ao:Option Addr} {c:Nat} {l:List Dm} {k:Nat} (h:DimsIn w ao c l) (hk:k≤l.length):DimsIn w ao c (l.take k):=by
 have hl:(l.take k).length=k:=by rw[List.length_take]; omega
 refine ⟨by rw[hl]; exact Nat.le_trans hk h.1,h.2.1,fun h0=>?_⟩
 obtain ⟨g,o,e,hg,hc⟩:=h.2.2 (by omega)
 refine ⟨g,o,e,hg,fun j hj=>?_⟩
 have h9:=hc j (by omega)
 have e9:(l.take k).getD j Dm.none=l.getD j Dm.none:=by
  rw[List.getD_eq_getElem?_getD,List.getD_eq_getElem?_getD,List.getElem?_take,if_pos (by omega)]
 rw[e9]
 exact h9
theorem take_dm {l:List Dm} {k j:Nat} (hj:j<(l.take k).length):(l.take k).getD j Dm.none=l.getD j Dm.none∧j<l.length:=by
 rw[List.length_take] at hj
 exact ⟨by rw[List.getD_eq_getElem?_getD,List.getD_eq_getElem?_getD,List.getElem?_take,if_pos (by omega)],by omega⟩
theorem RatsAt.but {w w':World} {ao:Option Addr} {c:Nat} {rs:List Rat} {K b:Nat} (h:RatsAt w ao c rs K) (hn:NoDigAt w b) (hu:But b w w') (hne:∀g o,ao=some ⟨g,o,none⟩→g≠b):RatsAt w' ao c rs K:=by
 refine ⟨h.1,h.2.1,fun h0=>?_⟩
 obtain ⟨g,o,e,hg,hc⟩:=h.2.2 h0
 refine ⟨g,o,e,Nat.lt_of_lt_of_le hg hu.size,fun j hj=>?_⟩
 obtain ⟨s1,a1,c1,l1,s2,a2,c2,l2,r0,r1,r2,r3,r4⟩:=hc j hj
 have aa:=hu.block g (hne g o e) hg
 exact ⟨s1,a1,c1,l1,s2,a2,c2,l2,cell_keep aa r0,cell_keep aa r1,cell_keep aa r2,cell_keep aa r3,r4.but hn hu⟩
structure PtBox (B:Nat) (rs:List Rat) (q:Rat) (m:Nat) (L:Nat→Bool) (xs:Nat→Value) (w:World):Prop where
 box:L 8=true→∃b s1 a1 c1 l1 s2 a2 c2 l2,xs 8=.pointer (some ⟨b,0,none⟩)∧B≤b∧w.heap[b]?=some (.cells #[.bool s1,.slice a1 c1 l1,.bool s2,.slice a2 c2 l2] 43 (0,0))∧(L 9=true→RtIn w (.agg #[.bool s1,.slice a1 c1 l1,.bool s2,.slice a2 c2 l2]) q m)
 row:L 3=true→∃ar cr,xs 3=.slice ar rs.length cr∧RatsAt w ar cr rs 9∧(L 8=true→∀g o,ar=some ⟨g,o,none⟩→xs 8≠.pointer (some ⟨g,0,none⟩))
 ord:L 9=true→L 8=true
section
variable {B:Nat} {rs:List Rat} {q:Rat} {m:Nat} {L L':Nat→Bool} {xs xs':Nat→Value} {w w':World}
theorem PtBox.init (xs:Nat→Value) (w:World):PtBox B rs q m (fun _=>false) xs w:=⟨fun e=>by simp at e,fun e=>by simp at e,fun e=>by simp at e⟩
theorem PtBox.below (h:PtBox B rs q m L xs w) (h3:L' 3=L 3∧xs' 3=xs 3) (h8:L' 8=L 8∧xs' 8=xs 8) (h9:L' 9=L 9∧xs' 9=xs 9) (hb:Below w.heap.size w w'):PtBox B rs q m L' xs' w':=by
 refine ⟨fun e=>?_,fun e=>?_,fun e=>by rw[h8.1]; exact h.ord (by rw[←h9.1]; exact e)⟩
 ·rw[h8.1] at e
  obtain ⟨b,s1,a1,c1,l1,s2,a2,c2,l2,k1,k2,k3,k4⟩:=h.box e
  exact ⟨b,s1,a1,c1,l1,s2,a2,c2,l2,by rw[h8.2]; exact k1,k2,(hb.block b (ZL k3)).trans k3,fun e9=>(k4 (by rw[←h9.1]; exact e9)).below hb⟩
 ·rw[h3.1] at e
  obtain ⟨ar,cr,k1,k2,k3⟩:=h.row e
  exact ⟨ar,cr,by rw[h3.2]; exact k1,k2.below hb,fun e8=>by rw[h8.1] at e8; rw[h8.2]; exact k3 e8⟩
theorem PtBox.point (h:PtBox B rs q m L xs w) (hb:Below w.heap.size w w') {ar:Option Addr} {cr:Nat} (hr:RatsAt w' ar cr rs 9) (hnew:∀g o,ar=some ⟨g,o,none⟩→w.heap.size≤g):PtBox B rs q m (FlowX.setL L 3) (upd xs 3 (.slice ar rs.length cr)) w':=by
 have e8:FlowX.setL L 3 8=L 8:=by unfold FlowX.setL; simp
 have e9:FlowX.setL L 3 9=L 9:=by unfold FlowX.setL; simp
 have x8:upd xs 3 (.slice ar rs.length cr) 8=xs 8:=by unfold upd; rw[if_neg (by decide)]
 refine ⟨fun e=>?_,fun _=>⟨ar,cr,by unfold upd; rw[if_pos rfl],hr,fun e g o he=>?_⟩,fun e=>by rw[e8]; exact h.ord (by rw[←e9]; exact e)⟩
 ·rw[e8] at e
  obtain ⟨b,s1,a1,c1,l1,s2,a2,c2,l2,k1,k2,k3,k4⟩:=h.box e
  exact ⟨b,s1,a1,c1,l1,s2,a2,c2,l2,by rw[x8]; exact k1,k2,(hb.block b (ZL k3)).trans k3,fun f=>(k4 (by rw[←e9]; exact f)).below hb⟩
 ·rw[e8] at e
  obtain ⟨b,s1,a1,c1,l1,s2,a2,c2,l2,k1,k2,k3,k4⟩:=h.box e
  rw[x8,k1]
  have h1:=ZL k3
  have h2:=hnew g o he
  intro f
  simp only[Value.pointer.injEq,Option.some.injEq,Addr.mk.injEq] at f
  omega
theorem PtBox.make (h:PtBox B rs q m L xs w) (h0:0<rs.length) (hB:B≤w.heap.size) (h8:L 8=false):PtBox B rs q m (FlowX.setL L 8) (upd xs 8 (.pointer (some ⟨w.heap.size,0,none⟩))) (w.alloc (.cells #[.bool false,.slice none 0 0,.bool false,.slice none 0 0] 43)):=by
 have hb:Below w.heap.size w (w.alloc (.cells #[.bool false,.slice none 0 0,.bool false,.slice none 0 0] 43)):=(ZR _ w).alloc (Nat.le_refl _) _
 have e3:FlowX.setL L 8 3=L 3:=by unfold FlowX.setL; simp
 have e9:FlowX.setL L 8 9=L 9:=by unfold FlowX.setL; simp
 have h9:L 9=false:=Bool.eq_false_iff.2 fun e=>by
  have:=h.ord e
  rw[h8] at this
  cases this
 have x3:upd xs 8 (.pointer (some ⟨w.heap.size,0,none⟩)) 3=xs 3:=by unfold upd; rw[if_neg (by decide)]
 have x8:upd xs 8 (.pointer (some ⟨w.heap.size,0,none⟩)) 8=.pointer (some ⟨w.heap.size,0,none⟩):=by unfold upd; rw[if_pos rfl]
 refine ⟨fun _=>⟨_,_,_,_,_,_,_,_,_,x8,hB,ZW w _,fun f=>by rw[e9,h9] at f; cases f⟩,fun e=>?_,fun _=>by unfold FlowX.setL; simp⟩
 rw[e3] at e
 obtain ⟨ar,cr,k1,k2,k3⟩:=h.row e
 refine ⟨ar,cr,by rw[x3]; exact k1,k2.below hb,fun _ g o he=>?_⟩
 rw[x8]
 intro f
 simp only[Value.pointer.injEq,Option.some.injEq,Addr.mk.injEq] at f
 obtain ⟨g',o',e',hg,-⟩:=k2.2.2 h0
 rw[e'] at he
 simp only[Option.some.injEq,Addr.mk.injEq] at he
 omega
theorem PtBox.put (h:PtBox B rs q m L xs w) (h8:L 8=true) {b:Nat} {s1:Bool} {a1:Option Addr} {c1 l1:Nat} {s2:Bool} {a2:Option Addr} {c2 l2:Nat} (hx:xs 8=.pointer (some ⟨b,0,none⟩)) (hB:B≤b) (hk:w.heap[b]?=some (.cells #[.bool s1,.slice a1 c1 l1,.bool s2,.slice a2 c2 l2] 43 (0,0)))
  {p1:Bool} {d1:Option Addr} {e1 m1:Nat} {p2:Bool} {d2:Option Addr} {e2 m2:Nat} (hr:RtIn w (.agg #[.bool p1,.slice d1 e1 m1,.bool p2,.slice d2 e2 m2]) q m) (v:Value) :
  PtBox B rs q m (FlowX.setL L 9) (upd xs 9 v) ((((w.setCell ⟨b,0,none⟩ (.bool p1)).setCell ⟨b,1,none⟩ (.slice d1 e1 m1)).setCell ⟨b,2,none⟩ (.bool p2)).setCell ⟨b,3,none⟩ (.slice d2 e2 m2)):=by
 have e3:FlowX.setL L 9 3=L 3:=by unfold FlowX.setL; simp
 have x3:upd xs 9 v 3=xs 3:=by unfold upd; rw[if_neg (by decide)]
 have x8:upd xs 9 v 8=xs 8:=by unfold upd; rw[if_neg (by decide)]
 have hu:=But.set4 (b:=b) w (.bool p1) (.slice d1 e1 m1) (.bool p2) (.slice d2 e2 m2)
 refine ⟨fun _=>⟨b,p1,d1,e1,m1,p2,d2,e2,m2,by rw[x8]; exact hx,hB,four_set hk _ _ _ _,fun _=>hr.but (nodig4 hk) hu⟩,fun e=>?_,fun _=>by unfold FlowX.setL; simp[h8]⟩
 rw[e3] at e
 obtain ⟨ar,cr,k1,k2,k3⟩:=h.row e
 refine ⟨ar,cr,by rw[x3]; exact k1,k2.but (nodig4 hk) hu fun g o he f=>k3 h8 g o he (by rw[hx,f]),fun _ g o he=>by rw[x8]; exact k3 h8 g o he⟩
end
theorem two_same {w:World} {b:Nat} (hk:w.heap[b]?=some (.cells #[.bool false,.slice none 0 0,.bool false,.slice none 0 0] 43 (0,0))) (c:Nat) (o:Obj) (h:w.heap[c]?=some o):((((w.setCell ⟨b,0,none⟩ (.bool false)).setCell ⟨b,1,none⟩ (.slice none 0 0)).setCell ⟨b,2,none⟩ (.bool false)).setCell ⟨b,3,none⟩ (.slice none 0 0)).heap[c]?=some o:=by
 by_cases e:c=b
 ·subst e
  rw[hk] at h
  rw[←h]
  exact four_set hk _ _ _ _
 ·exact ((But.set4 (b:=b) w (.bool false) (.slice none 0 0) (.bool false) (.slice none 0 0)).block c e (ZL h)).trans h
theorem twobox_same {B:Nat} {cs:Array Value} {t:TypeId} {p q:Nat} {L:Nat→Bool} {xs:Nat→Value} {w w':World} (h:FlowX.TwoBox B cs t p q L xs w) {i:Nat} (hp:p≠i) (hq:q≠i) (v:Value) (hs:∀(c:Nat) (o:Obj),w.heap[c]?=some o→w'.heap[c]?=some o):FlowX.TwoBox B cs t p q (FlowX.setL L i) (upd xs i v) w':=by
 have ep:FlowX.setL L i p=L p:=by unfold FlowX.setL; simp[hp]
 have eq:FlowX.setL L i q=L q:=by unfold FlowX.setL; simp[hq]
 have xp:upd xs i v p=xs p:=by unfold upd; rw[if_neg hp]
 have xq:upd xs i v q=xs q:=by unfold upd; rw[if_neg hq]
 refine ⟨fun e=>?_,fun e=>?_,fun e f=>?_⟩
 ·rw[ep] at e
  obtain ⟨b,h1,h2,h3⟩:=h.one e
  exact ⟨b,by rw[xp]; exact h1,h2,hs _ _ h3⟩
 ·rw[eq] at e
  obtain ⟨b,h1,h2,h3⟩:=h.two e
  exact ⟨b,by rw[xq]; exact h1,h2,hs _ _ h3⟩
 ·rw[ep] at e
  rw[eq] at f
  rw[xp,xq]
  exact h.ne e f
theorem said_DimensionBounds {w:World} (hG:Glob w) {v0 v1:Value} {l:List Trip} {ns:List Int} (hc:ChainIn w v0 l) (hns:PartsIn w v1 ns) {n0 n1 n2 n3:Int} (hq:(0≤n0∧n0≤255)∧(0≤n1∧n1≤255)∧(0≤n2∧n2≤255)∧(0≤n3∧n3≤255)):Calls Tryz.prog 10 #[v0,v1,.agg #[.int .u8 n0,.int .u8 n1,.int .u8 n2,.int .u8 n3]] w fun e w'=>e=.returned (.bool true)∧Below w.heap.size w w':=by
 have bB:=ZH (chain_ok hc)
 have HC:=ZH hc
 have bs:=ZH hns
 obtain ⟨ao,c,rfl,h1,h2,h3⟩:=hc
 obtain ⟨an,cn,rfl,m1,m2,m3⟩:=hns
 obtain ⟨n,hn⟩:∃n,n=l.length:=⟨_,rfl⟩
 obtain ⟨m,hm⟩:∃n,n=ns.length:=⟨_,rfl⟩
 obtain ⟨wa,ba,bp,cb,b1,cp,bG,k0,k1⟩:=new_two w #[.slice ao n c] #[.int .u8 n0,.int .u8 n1,.int .u8 n2,.int .u8 n3] 48 89
 have bI:n≤c∧c≤9223372036854775807:=by rw[hn]; exact ⟨h1,h2⟩
 have b4:m≤cn∧cn≤9223372036854775807:=by rw[hm]; exact ⟨m1,m2⟩
 rw[←hn] at HC
 rw[←hm] at bs
 have HNM:=ZH (ZN hn hm)
 have HG:=ZH (hG.below bG)
 have HW:=ZH (ZN cb (ZN b1 cp))
 have HK:=ZH (ZN k0 k1)
 have aC:=ZH bG
 have HQ:=ZH hq
 rw[←hn,←hm]
 clear cb b1 cp bG k0 k1 hG h1 h2 h3 m1 m2 m3 hn hm hq
 go_enter Tryz.func10,Tryz.ntmps10
 go_upto_region 1 with fail
 rw[←HW.out.1,←HW.out.2.2,←HW.out.2.1]
 clear HW
 go_wp2_with fail
 refine (pknown_any HG.out).mono ?_
 rintro e w1 ⟨rfl,bk⟩
 have az:=ZH bk
 have bz:=ZH (pknown_any (HG.out.below bk))
 have x0:=cells1 bk HK.out.1
 clear bk
 have e0:(6<(n:Int))=(6<n):=propext (by omega)
 have bC:(100<(m:Int))=(100<m):=propext (by omega)
 by_cases hn6:6<n
 ·have e1:((6:Int)<(n:Int))=True:=eq_true (by omega)
  clear e0 bC
  go_wp2_with fail
  refine bz.out.mono ?_
  rintro e w2 ⟨rfl,aA⟩
  have HF:=ZH (aC.out.trans ((az.out.trans (aA.mono az.out.size)).mono aC.out.size))
  clear aA
  go_wp2_with fail
  go_ret
  exact ⟨rfl,HF.out⟩
 have e1:((6:Int)<(n:Int))=False:=eq_false (by omega)
 by_cases hm8:100<m
 ·have e2:((100:Int)<(m:Int))=True:=eq_true (by omega)
  clear e0 bC
  go_wp2_with fail
  refine bz.out.mono ?_
  rintro e w2 ⟨rfl,aA⟩
  have HF:=ZH (aC.out.trans ((az.out.trans (aA.mono az.out.size)).mono aC.out.size))
  clear aA
  go_wp2_with fail
  go_ret
  exact ⟨rfl,HF.out⟩
 have e2:((100:Int)<(m:Int))=False:=eq_false (by omega)
 clear e0 bC bz
 have HSZ:=ZH (show n≤6∧m≤100 by omega)
 go_wp2_with fail
 refine (pDimensions_any ((HC.out.below aC.out).below az.out)).mono ?_
 rintro e w2 ⟨vd,rfl,aB,aA⟩
 obtain ⟨ad,cd,rfl,a0⟩:=dims_read aB
 obtain ⟨CL,bi⟩:∃x,x=chainLen l:=⟨_,rfl⟩
 have aY:1≤CL∧CL≤4:=by rw[bi]; unfold chainLen; split<;>omega
 rw[←bi] at a0
 have ak:(chainDims l CL).length=CL:=chainDims_len l CL
 have ca:CL≤cd∧cd≤9223372036854775807:=by have:=a0; exact ⟨by have:=this.1; omega,this.2.1⟩
 rw[←bi,ak]
 obtain ⟨D,hD⟩:∃x,x=chainDims l CL:=⟨_,rfl⟩
 rw[←hD] at a0 ak
 have cq:=ZH a0
 have ah:=ZH (ZN aY ak)
 have ai:=az.out.trans (aA.mono az.out.size)
 have bc:=ZH (aC.out.trans (ai.mono aC.out.size))
 have a3:∀j,j<D.length→(D.getD j Dm.none).lower≤(D.getD j Dm.none).upper:=fun j hj=>by
  rw[ak] at hj
  rw[hD,chain_getD l hj]
  have h9:=chain_bound l bB.out j
  omega
 have bl:=ZH (show ∀j,j<D.length→(-1000000000≤(D.getD j Dm.none).nominal∧(D.getD j Dm.none).nominal≤1000000000)∧(-1000000000≤(D.getD j Dm.none).lower∧(D.getD j Dm.none).lower≤1000000000)∧(-1000000000≤(D.getD j Dm.none).upper∧(D.getD j Dm.none).upper≤1000000000) from fun j hj=>by
  rw[ak] at hj
  rw[hD,chain_getD l hj]
  have h9:=chain_bound l bB.out j
  omega)
 have bX:=ZH (HG.out.below ai)
 have aX:=ZH (bs.out.below bc.out)
 have bL:=ZH ((ai.block bp (ZL HK.out.2)).trans HK.out.2)
 clear aB aA ai a0 bi aY ak hD HC bs az aC HK HG x0 e1 e2 hn6 hm8 bI bB
 -- the expression
 go_wp2_with fail
 refine (pGrow_any bX.out aX.out (by have:=ah.out; omega) (by have:=ah.out; omega)).mono ?_
 rintro e w3 ⟨vx,rfl,bJ,au⟩
 have aL:=growE_fine (d:=CL) (by have:=ah.out; omega) 4 (ns.take 60) 0
 have aE:=grow_lite (Nat.le_refl 4) aL
 obtain ⟨x,cx⟩:∃x,x=(growE CL 4 (ns.take 60) 0).1:=⟨_,rfl⟩
 rw[←cx] at aL aE bJ
 have HX:=ZH (show EvFine CL x∧UptoG CL x∧dep x≤5∧bsz x≤30000∧Over CL x from ⟨⟨aL.over,aE.1,by have h9:=esz_le x; omega⟩,over_upto aL.over,aL.dep,aE.2,aL.over⟩)
 have a5:=bJ.reads
 obtain ⟨tv,aa,ac,rfl,br,hax⟩:=a5.out
 rw[raw_op,raw_args,raws_len] at a5⊢
 obtain ⟨ta,tc,rfl,-⟩:=id br
 obtain ⟨s0,bN⟩:∃s:ByteArray,s=⟨(raw x).c.toArray⟩:=⟨_,rfl⟩
 obtain ⟨s1,cs⟩:∃s:ByteArray,s=⟨(raw x).f.toArray⟩:=⟨_,rfl⟩
 obtain ⟨tn,bY⟩:∃x',x'=(raw x).t.length:=⟨_,rfl⟩
 obtain ⟨xn,cB⟩:∃x',x'=(argG x).length:=⟨_,rfl⟩
 obtain ⟨o,ho⟩:∃x',x'=opG x:=⟨_,rfl⟩
 rw[←bN,←cs,←bY,←cB,←ho] at a5⊢
 rw[←bY] at br
 have HEX:=ZH (ZN a5 (ZN br (ZN bN ho)))
 have bE:=ZH au
 clear aL aE cx bJ a5 br hax bN cs bY cB ho au
 have HO:=ZH (show ∀j,j<D.length→(D.getD j Dm.none).lower≤(D.getD j Dm.none).upper from a3)
 clear a3
 go_upto_region 5 with fail
 obtain ⟨w4,bx,cA,ci,bQ,k4⟩:=new_box w3 #[.int .i64 o,.string s0,.slice ta tn tc,.string s1,.slice aa xn ac] 63
 rw[←cA,←ci]
 have a4:=bE.out.trans (bQ.mono bE.out.size)
 have bR:=ZH (bc.out.trans (a4.mono bc.out.size))
 have aQ:=ZH k4
 have aF:=ZH (ZN (HEX.out.1.below bQ) (ZN (bX.out.below a4) (cq.out.below a4)))
 have aM:=ZH ((a4.block bp (ZL bL.out)).trans bL.out)
 obtain ⟨z0,z1,z2,z3,z4⟩:=cells5 (ZR _ w4) k4
 clear cA ci bQ k4 a4 bE bc bX aX bL cq
 -- Bounds
 have aZ:=ZH (show BndFit CL (boxes D) x from ⟨HX.out.2.2.2.2,HX.out.1.lite,.inr (bnd_ord HO.out),by have:=HX.out.2.2.2.1; omega⟩)
 have bj:=mBounds_all (n:=CL) (by have:=ah.out; omega) bl.out 5 x HX.out.2.2.1 aZ.out w4 _ ad cd aF.out.2.1 aF.out.2.2 aF.out.1
 unfold BndG at bj
 rw[ah.out.2] at bj
 have cf:=ZH bj
 clear bj
 go_wp2_with fail
 refine cf.out.mono ?_
 rintro e w5 ⟨cl,hc⟩
 rcases hc with ⟨hu,lo,hi,rfl,aG,aN⟩ | ⟨hu,rfl⟩
 case inr=>exact absurd HX.out.2.1 hu
 obtain ⟨p1,g1,f1,q1,p2,g2,f2,q2,rfl⟩:=rt_shape aG
 obtain ⟨p3,g3,f3,q3,p4,g4,f4,q4,rfl⟩:=rt_shape aN
 have bO:=ZH (ZN aG aN)
 have bU:=ZH cl
 clear aG aN cl hu cf z0 z1 z2 z3 z4
 go_upto_region 6 with fail
 obtain ⟨w6,b9,cy,cu,cz,aW,bf,k9,b6⟩:=new_two w5 #[.bool p1,.slice g1 f1 q1,.bool p2,.slice g2 f2 q2] #[.bool p3,.slice g3 f3 q3,.bool p4,.slice g4 f4 q4] 43 43
 rw[←cu,←aW,←cz]
 have aP:=bU.out.trans (bf.mono bU.out.size)
 have bF:=ZH (bR.out.trans (aP.mono bR.out.size))
 have aw:=ZH ((aP.block bx (ZL aQ.out)).trans aQ.out)
 have aJ:=ZH (ZN (aF.out.1.below aP) (ZN (aF.out.2.1.below aP) (aF.out.2.2.below aP)))
 have aI:=ZH ((aP.block bp (ZL aM.out)).trans aM.out)
 have a9:=ZH (ZN k9 b6)
 have bT:=ZH (ZN (bO.out.1.below bf) (bO.out.2.below bf))
 obtain ⟨z0,z1,z2,z3,z4⟩:=cells5 (ZR _ w6) aw.out
 clear cu cz aW bf k9 b6 aP bR aQ aF aM bO bU
 -- the law's bounds
 have bh:=pbounds_any (n:=CL) (by have:=ah.out; omega) bl.out HO.out (bnd_ord HO.out) 5 x HX.out.2.2.1 aZ.out (by rw[ah.out.2]; exact HX.out.2.1) w6 _ ad cd aJ.out.2.1 aJ.out.2.2 aJ.out.1
 unfold PbPost at bh
 rw[ah.out.2] at bh
 have cj:=ZH bh
 clear bh
 go_wp2_with fail
 refine cj.out.mono ?_
 rintro e w7 ⟨b7,lo,hi,rfl,aG,aN⟩
 obtain ⟨r1,i1,j1,m1,r2,i2,j2,m2,rfl⟩:=rt_shape aG
 obtain ⟨r3,i3,j3,m3,r4,i4,j4,m4,rfl⟩:=rt_shape aN
 have bM:=ZH (ZN aG aN)
 have bH:=ZH b7
 clear aG aN b7 cj z0 z1 z2 z3 z4
 go_upto_region 7 with fail
 obtain ⟨w8,b12,b13,cv,ai,a8,be,ck,cg⟩:=new_two w7 #[.bool r1,.slice i1 j1 m1,.bool r2,.slice i2 j2 m2] #[.bool r3,.slice i3 j3 m3,.bool r4,.slice i4 j4 m4] 43 43
 rw[←cv,←a8,←ai]
 have ap:=bH.out.trans (be.mono bH.out.size)
 have bS:=ZH (bF.out.trans (ap.mono bF.out.size))
 have ax:=ZH ((ap.block bx (ZL aw.out)).trans aw.out)
 have aH:=ZH (ZN (aJ.out.1.below ap) (ZN (aJ.out.2.1.below ap) (aJ.out.2.2.below ap)))
 have a7:=ZH ((ap.block bp (ZL aI.out)).trans aI.out)
 have av:=ZH (ZN ((ap.block b9 (ZL a9.out.1)).trans a9.out.1) (ZN ((ap.block cy (ZL a9.out.2)).trans a9.out.2) (ZN ck cg)))
 have aV:=ZH (ZN (bT.out.1.below ap) (ZN (bT.out.2.below ap) (ZN (bM.out.1.below be) (bM.out.2.below be))))
 obtain ⟨rs,bg⟩:∃rs,rs=ptTo D (n0,n1,n2,n3) CL:=⟨_,rfl⟩
 have b5:rs.length=CL:=by rw[bg]; exact ptTo_len _ _ _
 have bm:=ZH (ZN bg (ZN b5 (show AllIn (boxes D) rs by
  have h9:=pt_in HO.out HQ.out
  rwa[ah.out.2,←bg] at h9)))
 have ag:=ZH (show 2≤esz x∧esz x≤100000∧2≤bsz x∧bsz x≤30000 from ⟨esz_two x,HX.out.1.size,bsz_two x,HX.out.2.2.2.1⟩)
 have am:=ZH (ZR w8.heap.size w8)
 clear cv ai a8 be ck cg ap bF aw aJ aI a9 bT bM bH bg b5
 refine FlowX.wp_region_mix (fun a b=>∀v r K,RtIn a v r K→RtIn b v r K) (fun _ _ h _ _ _ k=>k.below h) [0,1,2,3,4,5,6,7,8,9] [true,true,true,true,true,true,true,true,true,true,false] (fun j9=>[3,8,9].contains j9) (fun i9 v w'=>match i9 with
  | 0=>v=.agg #[.int .i64 o,.string s0,.slice ta tn tc,.string s1,.slice aa xn ac]
  | 1=>v=.slice ad CL cd
  | 2=>v=.agg #[.int .u8 n0,.int .u8 n1,.int .u8 n2,.int .u8 n3]
  | 3=>True
  | 4=>∃v5,v=.tuple #[v5,.int .i64 0]∧RtIn w' v5 (eval rs x) (esz x)
  | 5=>∃v5,v=.tuple #[v5,.int .i64 0]∧RtIn w' v5 (eval rs x) (esz x)
  | 6=>RtIn w' v (eval rs x) (esz x)
  | 7=>v=.int .i64 0
  | 8=>True
  | _=>True) (PtBox w8.heap.size rs (eval rs x) (esz x)) rfl rfl (by kernel_rfl) (by kernel_rfl) (by kernel_rfl) (by kernel_rfl) ?st ?hX ?hX0 ?_ ?_
 case st=>
  intro i9 v u1 u2 h hb
  match i9 with
  | 0 | 1 | 2 | 3 | 7 | 8 | 9 | _+10=>exact h
  | 4 | 5=>exact by obtain ⟨v5,e5,k5⟩:=(show ∃v5,v=.tuple #[v5,.int .i64 0]∧RtIn u1 v5 (eval rs x) (esz x) from h); exact ⟨v5,e5,hb _ _ _ k5⟩
  | 6=>exact hb _ _ _ (show RtIn u1 v (eval rs x) (esz x) from h)
 case hX=>exact fun L xs w L' xs' w' h he hb=>h.below (he 3 rfl) (he 8 rfl) (he 9 rfl) hb
 case hX0=>exact fun xs=>PtBox.init _ _
 refine Flow.Steps.cons (.inl ⟨rfl,FlowX.StepS.of rfl ?s0⟩) (Flow.Steps.cons (.inl ⟨rfl,FlowX.StepS.of rfl ?s1⟩) (Flow.Steps.cons (.inl ⟨rfl,FlowX.StepS.of rfl ?s2⟩) (Flow.Steps.cons (.inr ⟨rfl,FlowX.StepX.of rfl ?s3⟩) (Flow.Steps.cons (.inl ⟨rfl,FlowX.StepS.of rfl ?s4⟩) (Flow.Steps.cons (.inl ⟨rfl,FlowX.StepS.of rfl ?s5⟩) (Flow.Steps.cons (.inl ⟨rfl,FlowX.StepS.of rfl ?s6⟩) (Flow.Steps.cons (.inl ⟨rfl,FlowX.StepS.of rfl ?s7⟩) (Flow.Steps.cons (.inr ⟨rfl,FlowX.StepX.of rfl ?s8⟩) (Flow.Steps.cons (.inr ⟨rfl,FlowX.StepX.of rfl ?s9⟩) Flow.Steps.nil)))))))))
 case s0 | s2=>
  intro L9 xs w' hb hT af K9 ae
  clear hT
  simp only[zFp,zAp,zLa,zLb,zLc,Nat.reduceAdd,zNz] at ae⊢
  have hw:=Flow.hwD am.out hb
  obtain ⟨y0,y1,y2,y3,y4⟩:=cells5 hw ax.out
  obtain ⟨z0,z1,z2,z3⟩:=cells4 hw a7.out
  go_simp
  exact ae _ _ (ZR _ _) rfl
 case s1=>
  intro L9 xs w' hb hT af K9 ae
  clear hT
  simp only[zFp,zAp,zLa,zLb,zLc,Nat.reduceAdd,zNz] at ae⊢
  have hw:=Flow.hwD am.out hb
  go_simp
  exact ae _ _ (ZR _ _) rfl
 case s3=>
  intro L9 xs w' hb hT af aK K9 ae
  have h1:(xs 1)=.slice ad CL cd:=(hT 1 (by kernel_rfl)).2
  have h2:(xs 2)=.agg #[.int .u8 n0,.int .u8 n1,.int .u8 n2,.int .u8 n3]:=(hT 2 (by kernel_rfl)).2
  clear hT
  simp only[zFp,zAp,zLa,zLb,zLc,Nat.reduceAdd,zNz] at ae⊢
  have hw:=Flow.hwD am.out hb
  (try simp only[h1] at ae)
  (try simp only[h2] at ae)
  have cw:=pPoint_any (aH.out.2.2.below hw) (by have:=ah.out; omega) bl.out HQ.out.1 HQ.out.2.1 HQ.out.2.2.1 HQ.out.2.2.2
  rw[ah.out.2,←bm.out.1] at cw
  go_simp
  go_at_call 48
  refine cw.mono ?_
  rintro e w3 ⟨v3,rfl,bo,au⟩
  have bW:=RatApp.own bo
  obtain ⟨ar,cr,rfl,hrr⟩:=bo.reads
  exact ae _ _ (hb.trans (au.mono hb.size)) (fun _ _ _ k=>k.below au) trivial (af.point au hrr fun g o e9=>(bW g (by rw[e9]; rfl)).1)
 case s4=>
  intro L9 xs w' hb hT af K9 ae
  have h0:(xs 0)=.agg #[.int .i64 o,.string s0,.slice ta tn tc,.string s1,.slice aa xn ac]:=(hT 0 (by kernel_rfl)).2
  have h3:True:=(hT 3 (by kernel_rfl)).2
  have l3:L9 3=true:=(hT 3 (by kernel_rfl)).1
  clear hT
  simp only[zFp,zAp,zLa,zLb,zLc,Nat.reduceAdd,zNz] at ae⊢
  have hw:=Flow.hwD am.out hb
  (try simp only[h0] at ae)
  obtain ⟨ar,cr,e3,bo,-⟩:=af.row l3
  (try simp only[e3] at ae)
  clear h3
  have aU:=mEvaluate_any (n:=CL) (by have:=ah.out; omega) (rs:=rs) (K:=9) (by omega) 5 x HX.out.2.2.1 HX.out.1 w' _ ar cr (aH.out.2.1.below hw) bo (aH.out.1.below hw)
  unfold EvPost at aU
  go_simp
  go_at_call 49
  refine aU.mono ?_
  rintro e w3 ⟨au,hc⟩
  rcases hc with ⟨hu,v5,rfl,hv5⟩ | ⟨hu,rfl⟩
  case inr=>exact absurd (by rw[bm.out.2.1]; exact HX.out.2.1) hu
  exact ae _ _ au ⟨v5,rfl,hv5⟩
 case s5=>
  intro L9 xs w' hb hT af K9 ae
  have h4:∃v5,(xs 4)=.tuple #[v5,.int .i64 0]∧RtIn w' v5 (eval rs x) (esz x):=(hT 4 (by kernel_rfl)).2
  clear hT
  simp only[zFp,zAp,zLa,zLb,zLc,Nat.reduceAdd,zNz] at ae⊢
  have hw:=Flow.hwD am.out hb
  go_simp
  exact ae _ _ (ZR _ _) h4
 case s6=>
  intro L9 xs w' hb hT af K9 ae
  have h5:∃v5,(xs 5)=.tuple #[v5,.int .i64 0]∧RtIn w' v5 (eval rs x) (esz x):=(hT 5 (by kernel_rfl)).2
  clear hT
  simp only[zFp,zAp,zLa,zLb,zLc,Nat.reduceAdd,zNz] at ae⊢
  have hw:=Flow.hwD am.out hb
  obtain ⟨v5,e5,k5⟩:=h5
  (try simp only[e5] at ae)
  go_simp
  exact ae _ _ (ZR _ _) k5
 case s7=>
  intro L9 xs w' hb hT af K9 ae
  have h5:∃v5,(xs 5)=.tuple #[v5,.int .i64 0]∧RtIn w' v5 (eval rs x) (esz x):=(hT 5 (by kernel_rfl)).2
  clear hT
  simp only[zFp,zAp,zLa,zLb,zLc,Nat.reduceAdd,zNz] at ae⊢
  have hw:=Flow.hwD am.out hb
  obtain ⟨v5,e5,k5⟩:=h5
  (try simp only[e5] at ae)
  go_simp
  exact ae _ _ (ZR _ _) rfl
 case s8=>
  intro L9 xs w' hb hT af aK K9 ae
  clear hT
  simp only[zFp,zAp,zLa,zLb,zLc,Nat.reduceAdd,zNz] at ae⊢
  have hw:=Flow.hwD am.out hb
  go_simp
  exact ae _ _ (hb.alloc hb.size _) (fun _ _ _ k=>k.below ((ZR _ _).alloc (Nat.le_refl _) _)) trivial (af.make (by rw[bm.out.2.1]; have:=ah.out; omega) hb.size aK)
 case s9=>
  intro L9 xs w' hb hT af aK K9 ae
  have h6:RtIn w' (xs 6) (eval rs x) (esz x):=(hT 6 (by kernel_rfl)).2
  have h8:True:=(hT 8 (by kernel_rfl)).2
  have l8:L9 8=true:=(hT 8 (by kernel_rfl)).1
  clear hT
  simp only[zFp,zAp,zLa,zLb,zLc,Nat.reduceAdd,zNz] at ae⊢
  have hw:=Flow.hwD am.out hb
  obtain ⟨bq,s1',a1',c1',l1',s2',a2',c2',l2',aS,aj,kq,-⟩:=af.box l8
  obtain ⟨y1,d1,e1',z1,y2,d2,e2',z2,e6⟩:=rt_shape h6
  rw[e6] at h6
  obtain ⟨cC,ct,bZ,b8⟩:=cells4 (ZR _ w') kq
  obtain ⟨f0,b3,b2,ce⟩:=free4 kq
  (try simp only[aS,e6] at ae)
  clear h8
  go_simp
  exact ae undef _ ((((hb.setCell (p:=⟨bq,0,none⟩) aj _).setCell (p:=⟨bq,1,none⟩) aj _).setCell (p:=⟨bq,2,none⟩) aj _).setCell (p:=⟨bq,3,none⟩) aj _) (fun _ _ _ k=>k.but (nodig4 kq) (But.set4 _ _ _ _ _)) trivial (af.put l8 aS aj kq h6 undef)
 intro xs w' hb hT af
 have hw:=Flow.hwD am.out hb
 have h7:(xs 7)=.int .i64 0:=hT 7 (by rfl)
 clear hT
 simp only[zFp,zAp,zLa,zLb,zLc,Nat.reduceAdd,zNz,FlowR.restL]
 obtain ⟨bv,u1,a1,c1,l1,u2,a2,c2,l2,e8,hgv,kv,b0⟩:=af.box (by rfl)
 simp only[h7,e8]
 have HV:=ZH (ZN kv (b0 (by rfl)))
 have H8:=ZH hw
 obtain ⟨w9,bu⟩:∃q,q=w':=⟨_,rfl⟩
 rw[←bu] at HV H8
 have bd:=ZH (bS.out.trans (H8.out.mono bS.out.size))
 have aO:=ZH ((H8.out.block bx (ZL ax.out)).trans ax.out)
 have bn:=ZH (ZN (aH.out.1.below H8.out) (ZN (aH.out.2.1.below H8.out) (aH.out.2.2.below H8.out)))
 have aT:=ZH (ZN ((H8.out.block b9 (ZL av.out.1)).trans av.out.1) (ZN ((H8.out.block cy (ZL av.out.2.1)).trans av.out.2.1) (ZN ((H8.out.block b12 (ZL av.out.2.2.1)).trans av.out.2.2.1) ((H8.out.block b13 (ZL av.out.2.2.2)).trans av.out.2.2.2))))
 have aR:=ZH (ZN (aV.out.1.below H8.out) (ZN (aV.out.2.1.below H8.out) (ZN (aV.out.2.2.1.below H8.out) (aV.out.2.2.2.below H8.out))))
 rw[←bu]
 clear e8 h7 hgv kv b0 af hw hb bu bS ax aH a7 av aV am H8
 go_upto_region 8 with fail
 obtain ⟨t0,t1,t2,t3⟩:=cells4 (ZR _ w9) aT.out.1
 obtain ⟨y0,y1,y2,y3⟩:=cells4 (ZR _ w9) aT.out.2.2.1
 go_wp2_with fail
 refine (pequal_any aR.out.1 aR.out.2.2.1 ag.out.2.2.1 ag.out.2.2.1 (by have:=ag.out; omega)).mono ?_
 rintro e x1 ⟨a6,aq⟩
 rw[cmpq_self] at a6
 subst a6
 have H1:=ZH aq
 clear aq t0 t1 t2 t3 y0 y1 y2 y3
 obtain ⟨t0,t1,t2,t3⟩:=cells4 H1.out aT.out.2.1
 obtain ⟨y0,y1,y2,y3⟩:=cells4 H1.out aT.out.2.2.2
 go_wp2_with fail
 refine (pequal_any (aR.out.2.1.below H1.out) (aR.out.2.2.2.below H1.out) ag.out.2.2.1 ag.out.2.2.1 (by have:=ag.out; omega)).mono ?_
 rintro e x2 ⟨a6,aq⟩
 rw[cmpq_self] at a6
 subst a6
 have H2:=ZH (H1.out.trans (aq.mono H1.out.size))
 clear aq t0 t1 t2 t3 y0 y1 y2 y3 H1
 have bA:=Go.Gx.bnd_in bm.out.2.2 x
 obtain ⟨t0,t1,t2,t3⟩:=cells4 H2.out aT.out.1
 obtain ⟨y0,y1,y2,y3⟩:=cells4 H2.out HV.out.1
 have e4:(0<cmpQ (bnd (boxes D) x).1 (eval rs x))=False:=eq_false (fun h=>Rat.not_lt.2 bA.1 (cmpQ_gt.1 h))
 have e5:(0<cmpQ (eval rs x) (bnd (boxes D) x).2)=False:=eq_false (fun h=>Rat.not_lt.2 bA.2 (cmpQ_gt.1 h))
 go_wp2_with fail
 refine (ratCompare_any (aR.out.1.below H2.out) (HV.out.2.below H2.out) ag.out.2.2.1 ag.out.1 (by have:=ag.out; omega)).mono ?_
 rintro e x3 ⟨rfl,aq⟩
 have H3:=ZH (H2.out.trans (aq.mono H2.out.size))
 clear aq t0 t1 t2 t3 y0 y1 y2 y3 H2 bA
 obtain ⟨t0,t1,t2,t3⟩:=cells4 H3.out aT.out.2.1
 obtain ⟨y0,y1,y2,y3⟩:=cells4 H3.out HV.out.1
 go_wp2_with fail
 refine (ratCompare_any (HV.out.2.below H3.out) (aR.out.2.1.below H3.out) ag.out.1 ag.out.2.2.1 (by have:=ag.out; omega)).mono ?_
 rintro e x4 ⟨rfl,aq⟩
 have H4:=ZH (H3.out.trans (aq.mono H3.out.size))
 clear aq t0 t1 t2 t3 y0 y1 y2 y3 H3
 obtain ⟨z0,z1,z2,z3,z4⟩:=cells5 H4.out aO.out
 have ay:=ZH (plast_any (n:=CL) (by have:=ah.out; omega) 5 x HX.out.2.2.1 HX.out.2.2.2.2 (by have:=HX.out; omega) x4 _ (bn.out.1.below H4.out))
 go_wp2_with fail
 refine ay.out.mono ?_
 rintro e wk ⟨rfl,co⟩
 have aD:=ZH (H4.out.trans (co.mono H4.out.size))
 clear co z0 z1 z2 z3 z4 H4 ay e4 e5
 have bP:=last_upto CL x
 have bb:=lastE_pos x
 have bw:lastE (raw x)≤(CL:Int):=bP.2 HX.out.2.1
 obtain ⟨ke,bD⟩:∃k:Nat,lastE (raw x)=(k:Int):=⟨(lastE (raw x)).toNat,by omega⟩
 rw[bD] at bw⊢
 by_cases hk0:0<ke
 ·obtain ⟨k1,rfl⟩:∃k1,ke=k1+1:=⟨ke-1,by omega⟩
  have ch:¬UptoG k1 x:=fun h=>by have h9:=(last_upto k1 x).2 h; omega
  have e3:((0:Int)<((k1+1:Nat):Int))=True:=eq_true (by omega)
  have bK:=ZH (ZN ch (show k1≤CL∧CL≤4 from ⟨by omega,ah.out.1.2⟩))
  obtain ⟨kz,bt⟩:∃z:Int,z=((k1+1:Nat):Int):=⟨_,rfl⟩
  have hsub:IntKind.i64.wrap (kz-1)=(k1:Int):=by rw[bt,IntWalk.i64_in _ (by omega)]; omega
  have hk10:(0:Int)≤(k1:Int):=by omega
  have hk11:(k1:Int)≤(cd:Int):=by omega
  have HKX:=ZH ((aD.out.block bx (ZL aO.out)).trans aO.out)
  have bV:=ZH (ZN (bn.out.1.below aD.out) (ZN (bn.out.2.1.below aD.out) (bn.out.2.2.below aD.out)))
  have al:=ZH (ZR wk.heap.size wk)
  rw[←bt] at e3⊢
  clear bP bb bw bD ch bt hk0
  go_upto_region 12 with fail
  refine FlowX.wp_region_mix (fun _ _=>True) (fun _ _ _=>trivial) [0,1,2,3,4,5,6,7,8,9,10,11,12,13] [true,true,true,true,true,true,true,true,true,true,true,true,true,true,false] (fun j9=>[10,11,12,13].contains j9) (fun i9 v w'=>match i9 with
   | 0=>v=.agg #[.int .i64 o,.string s0,.slice ta tn tc,.string s1,.slice aa xn ac]
   | 1=>v=.slice ad CL cd
   | 2=>v=.int .i64 kz
   | 3=>v=.int .i64 (k1:Int)
   | 4=>v=.slice ad k1 cd
   | 5=>v=.tuple #[.agg #[.bool false,.slice none 0 0,.bool false,.slice none 0 0],.agg #[.bool false,.slice none 0 0,.bool false,.slice none 0 0],.int .i64 13]
   | 6=>v=.tuple #[.agg #[.bool false,.slice none 0 0,.bool false,.slice none 0 0],.agg #[.bool false,.slice none 0 0,.bool false,.slice none 0 0],.int .i64 13]
   | 7=>v=.agg #[.bool false,.slice none 0 0,.bool false,.slice none 0 0]
   | 8=>v=.agg #[.bool false,.slice none 0 0,.bool false,.slice none 0 0]
   | 9=>v=.int .i64 13
   | 10=>True
   | 11=>True
   | 12=>True
   | _=>True) (FlowX.TwoBox wk.heap.size #[.bool false,.slice none 0 0,.bool false,.slice none 0 0] 43 10 11) rfl rfl (by kernel_rfl) (by kernel_rfl) (by kernel_rfl) (by kernel_rfl) ?st ?hX ?hX0 ?_ ?_
  case st=>
   intro i9 v u1 u2 h hb
   match i9 with
   | 0 | 1 | 2 | 3 | 4 | 5 | 6 | 7 | 8 | 9 | 10 | 11 | 12 | 13 | _+14=>exact h
  case hX=>exact fun L xs w L' xs' w' h he hb=>h.below (he 10 rfl) (he 11 rfl) hb
  case hX0=>exact fun xs=>FlowX.TwoBox.init _ _
  refine Flow.Steps.cons (.inl ⟨rfl,FlowX.StepS.of rfl ?s0⟩) (Flow.Steps.cons (.inl ⟨rfl,FlowX.StepS.of rfl ?s1⟩) (Flow.Steps.cons (.inl ⟨rfl,FlowX.StepS.of rfl ?s2⟩) (Flow.Steps.cons (.inl ⟨rfl,FlowX.StepS.of rfl ?s3⟩) (Flow.Steps.cons (.inl ⟨rfl,FlowX.StepS.of rfl ?s4⟩) (Flow.Steps.cons (.inl ⟨rfl,FlowX.StepS.of rfl ?s5⟩) (Flow.Steps.cons (.inl ⟨rfl,FlowX.StepS.of rfl ?s6⟩) (Flow.Steps.cons (.inl ⟨rfl,FlowX.StepS.of rfl ?s7⟩) (Flow.Steps.cons (.inl ⟨rfl,FlowX.StepS.of rfl ?s8⟩) (Flow.Steps.cons (.inl ⟨rfl,FlowX.StepS.of rfl ?s9⟩) (Flow.Steps.cons (.inr ⟨rfl,FlowX.StepX.of rfl ?s10⟩) (Flow.Steps.cons (.inr ⟨rfl,FlowX.StepX.of rfl ?s11⟩) (Flow.Steps.cons (.inr ⟨rfl,FlowX.StepX.of rfl ?s12⟩) (Flow.Steps.cons (.inr ⟨rfl,FlowX.StepX.of rfl ?s13⟩) Flow.Steps.nil)))))))))))))
  case s0=>
   intro L9 xs w' hb hT af K9 ae
   clear hT
   simp only[zFp,zAp,zLa,zLb,zLc,Nat.reduceAdd,zNz] at ae⊢
   have hw:=Flow.hwD al.out hb
   obtain ⟨y0,y1,y2,y3,y4⟩:=cells5 hw HKX.out
   go_simp
   exact ae _ _ (ZR _ _) rfl
  case s1 | s2=>
   intro L9 xs w' hb hT af K9 ae
   clear hT
   simp only[zFp,zAp,zLa,zLb,zLc,Nat.reduceAdd,zNz] at ae⊢
   have hw:=Flow.hwD al.out hb
   go_simp
   exact ae _ _ (ZR _ _) rfl
  case s3=>
   intro L9 xs w' hb hT af K9 ae
   have h2:(xs 2)=.int .i64 kz:=(hT 2 (by kernel_rfl)).2
   clear hT
   simp only[zFp,zAp,zLa,zLb,zLc,Nat.reduceAdd,zNz] at ae⊢
   have hw:=Flow.hwD al.out hb
   (try simp only[h2] at ae)
   go_simp
   exact ae _ _ (ZR _ _) rfl
  case s4=>
   intro L9 xs w' hb hT af K9 ae
   have h1:(xs 1)=.slice ad CL cd:=(hT 1 (by kernel_rfl)).2
   have h3:(xs 3)=.int .i64 (k1:Int):=(hT 3 (by kernel_rfl)).2
   clear hT
   simp only[zFp,zAp,zLa,zLb,zLc,Nat.reduceAdd,zNz] at ae⊢
   have hw:=Flow.hwD al.out hb
   (try simp only[h1] at ae)
   (try simp only[h3] at ae)
   go_simp
   exact ae _ _ (ZR _ _) rfl
  case s5=>
   intro L9 xs w' hb hT af K9 ae
   have h0:(xs 0)=.agg #[.int .i64 o,.string s0,.slice ta tn tc,.string s1,.slice aa xn ac]:=(hT 0 (by kernel_rfl)).2
   have h4:(xs 4)=.slice ad k1 cd:=(hT 4 (by kernel_rfl)).2
   clear hT
   simp only[zFp,zAp,zLa,zLb,zLc,Nat.reduceAdd,zNz] at ae⊢
   have hw:=Flow.hwD al.out hb
   (try simp only[h0] at ae)
   (try simp only[h4] at ae)
   have aE:(D.take k1).length=k1:=by rw[List.length_take,ah.out.2]; have:=bK.out; omega
   have cm:dmFine (D.take k1):=fun j hj=>by rw[(take_dm hj).1]; exact bl.out j (take_dm hj).2
   have cc:∀j,j<(D.take k1).length→((D.take k1).getD j Dm.none).lower≤((D.take k1).getD j Dm.none).upper:=fun j hj=>by rw[(take_dm hj).1]; exact HO.out j (take_dm hj).2
   have aU:=mBounds_all (n:=CL) (by have:=ah.out; omega) cm 5 x HX.out.2.2.1 ⟨aZ.out.over,aZ.out.lite,.inr (bnd_ord cc),aZ.out.size⟩ w' _ ad cd (bV.out.2.1.below hw) ((bV.out.2.2.below hw).take (by rw[ah.out.2]; exact bK.out.2.1)) (bV.out.1.below hw)
   unfold BndG at aU
   rw[aE] at aU
   clear cm cc aE
   go_simp
   go_at_call 26
   refine aU.mono ?_
   rintro e w3 ⟨au,hc⟩
   rcases hc with ⟨hu,-⟩ | ⟨hu,rfl⟩
   ·exact absurd hu bK.out.1
   exact ae _ _ au rfl
  case s6=>
   intro L9 xs w' hb hT af K9 ae
   have h5:(xs 5)=.tuple #[.agg #[.bool false,.slice none 0 0,.bool false,.slice none 0 0],.agg #[.bool false,.slice none 0 0,.bool false,.slice none 0 0],.int .i64 13]:=(hT 5 (by kernel_rfl)).2
   clear hT
   simp only[zFp,zAp,zLa,zLb,zLc,Nat.reduceAdd,zNz] at ae⊢
   have hw:=Flow.hwD al.out hb
   (try simp only[h5] at ae)
   go_simp
   exact ae _ _ (ZR _ _) rfl
  case s7 | s8 | s9=>
   intro L9 xs w' hb hT af K9 ae
   have h6:(xs 6)=.tuple #[.agg #[.bool false,.slice none 0 0,.bool false,.slice none 0 0],.agg #[.bool false,.slice none 0 0,.bool false,.slice none 0 0],.int .i64 13]:=(hT 6 (by kernel_rfl)).2
   clear hT
   simp only[zFp,zAp,zLa,zLb,zLc,Nat.reduceAdd,zNz] at ae⊢
   have hw:=Flow.hwD al.out hb
   (try simp only[h6] at ae)
   go_simp
   exact ae _ _ (ZR _ _) rfl
  case s10=>
   intro L9 xs w' hb hT af aK K9 ae
   clear hT
   simp only[zFp,zAp,zLa,zLb,zLc,Nat.reduceAdd,zNz] at ae⊢
   have hw:=Flow.hwD al.out hb
   go_simp
   exact ae _ _ (hb.alloc hb.size _) trivial trivial (af.make1 hb.size (by decide))
  case s11=>
   intro L9 xs w' hb hT af aK K9 ae
   clear hT
   simp only[zFp,zAp,zLa,zLb,zLc,Nat.reduceAdd,zNz] at ae⊢
   have hw:=Flow.hwD al.out hb
   go_simp
   exact ae _ _ (hb.alloc hb.size _) trivial trivial (af.make2 hb.size (by decide))
  case s12=>
   intro L9 xs w' hb hT af aK K9 ae
   have h7:(xs 7)=.agg #[.bool false,.slice none 0 0,.bool false,.slice none 0 0]:=(hT 7 (by kernel_rfl)).2
   have h10:True:=(hT 10 (by kernel_rfl)).2
   have l10:L9 10=true:=(hT 10 (by kernel_rfl)).1
   clear hT
   simp only[zFp,zAp,zLa,zLb,zLc,Nat.reduceAdd,zNz] at ae⊢
   have hw:=Flow.hwD al.out hb
   (try simp only[h7] at ae)
   obtain ⟨bq,aS,aj,kq⟩:=af.one l10
   obtain ⟨cC,ct,bZ,b8⟩:=cells4 (ZR _ w') kq
   obtain ⟨f0,b3,b2,ce⟩:=free4 kq
   (try simp only[aS] at ae)
   clear h10
   go_simp
   exact ae undef _ ((((hb.setCell (p:=⟨bq,0,none⟩) aj _).setCell (p:=⟨bq,1,none⟩) aj _).setCell (p:=⟨bq,2,none⟩) aj _).setCell (p:=⟨bq,3,none⟩) aj _) trivial trivial (twobox_same af (by decide) (by decide) undef (two_same kq))
  case s13=>
   intro L9 xs w' hb hT af aK K9 ae
   have h8:(xs 8)=.agg #[.bool false,.slice none 0 0,.bool false,.slice none 0 0]:=(hT 8 (by kernel_rfl)).2
   have h11:True:=(hT 11 (by kernel_rfl)).2
   have l11:L9 11=true:=(hT 11 (by kernel_rfl)).1
   clear hT
   simp only[zFp,zAp,zLa,zLb,zLc,Nat.reduceAdd,zNz] at ae⊢
   have hw:=Flow.hwD al.out hb
   (try simp only[h8] at ae)
   obtain ⟨bq,aS,aj,kq⟩:=af.two l11
   obtain ⟨cC,ct,bZ,b8⟩:=cells4 (ZR _ w') kq
   obtain ⟨f0,b3,b2,ce⟩:=free4 kq
   (try simp only[aS] at ae)
   clear h11
   go_simp
   exact ae undef _ ((((hb.setCell (p:=⟨bq,0,none⟩) aj _).setCell (p:=⟨bq,1,none⟩) aj _).setCell (p:=⟨bq,2,none⟩) aj _).setCell (p:=⟨bq,3,none⟩) aj _) trivial trivial (twobox_same af (by decide) (by decide) undef (two_same kq))
  intro xs w' hb hT af
  have hw:=Flow.hwD al.out hb
  have h9:(xs 9)=.int .i64 13:=hT 9 (by rfl)
  clear hT
  simp only[zFp,zAp,zLa,zLb,zLc,Nat.reduceAdd,zNz,FlowR.restL]
  simp only[h9]
  have HF:=ZH (bd.out.trans ((aD.out.trans (hw.mono aD.out.size)).mono bd.out.size))
  clear h9 af hw hb
  go_wp2_with fail
  go_ret
  exact ⟨rfl,HF.out⟩
 ·obtain rfl:ke=0:=by omega
  have HF:=ZH (bd.out.trans (aD.out.mono bd.out.size))
  clear bP bb bw bD
  go_wp2_with fail
  go_ret
  exact ⟨rfl,HF.out⟩
end Go.Proofs.YtdgimcmappmjdaaGreatDoor

