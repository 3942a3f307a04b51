/- Short words for the walks: cells of a block in a later world, boxes that are made. -/
import Derived.Test.YtdcaaehapdhckaaGreatDoorKA
import Derived.Test.YtdcaaehapdhckaaGreatDoorFlow3M
import Derived.Test.YtdcaaehapdhckaaGreatDoorKD
import Derived.Test.YtdcaaehapdhckaaGreatDoorKI
import Derived.Test.YtdcaaehapdhckaaGreatDoorKX
set_option linter.unusedSimpArgs false
set_option linter.unusedVariables false
set_option maxRecDepth 100000
namespace Go.Proofs.YtdcaaehapdhckaaGreatDoor
open Go.RowKit Go.Num

section
variable {w w':World} {b:Nat} {x y z u v:Value} {t:TypeId}
theorem cells1 (hb:Below w.heap.size w w') (hk:w.heap[b]?=some (.cells #[x] t (0,0))):w'.cell? ⟨b,0,none⟩=some x:=by
 have k:=(hb.block b (ZL hk)).trans hk
 exact (ZI k 0).trans rfl
theorem cells2 (hb:Below w.heap.size w w') (hk:w.heap[b]?=some (.cells #[x,y] t (0,0))):w'.cell? ⟨b,0,none⟩=some x∧w'.cell? ⟨b,1,none⟩=some y:=by
 have k:=(hb.block b (ZL hk)).trans hk
 exact ⟨(ZI k 0).trans rfl,(ZI k 1).trans rfl⟩
theorem cells3 (hb:Below w.heap.size w w') (hk:w.heap[b]?=some (.cells #[x,y,z] t (0,0))):w'.cell? ⟨b,0,none⟩=some x∧w'.cell? ⟨b,1,none⟩=some y∧w'.cell? ⟨b,2,none⟩=some z:=by
 have k:=(hb.block b (ZL hk)).trans hk
 exact ⟨(ZI k 0).trans rfl,(ZI k 1).trans rfl,(ZI k 2).trans rfl⟩
theorem cells4 (hb:Below w.heap.size w w') (hk:w.heap[b]?=some (.cells #[x,y,z,u] t (0,0))):w'.cell? ⟨b,0,none⟩=some x∧w'.cell? ⟨b,1,none⟩=some y∧w'.cell? ⟨b,2,none⟩=some z∧w'.cell? ⟨b,3,none⟩=some u:=by
 have k:=(hb.block b (ZL hk)).trans hk
 exact ⟨(ZI k 0).trans rfl,(ZI k 1).trans rfl,(ZI k 2).trans rfl,(ZI k 3).trans rfl⟩
theorem cells5 (hb:Below w.heap.size w w') (hk:w.heap[b]?=some (.cells #[x,y,z,u,v] t (0,0))):w'.cell? ⟨b,0,none⟩=some x∧w'.cell? ⟨b,1,none⟩=some y∧w'.cell? ⟨b,2,none⟩=some z∧w'.cell? ⟨b,3,none⟩=some u∧w'.cell? ⟨b,4,none⟩=some v:=by
 have k:=(hb.block b (ZL hk)).trans hk
 exact ⟨(ZI k 0).trans rfl,(ZI k 1).trans rfl,(ZI k 2).trans rfl,(ZI k 3).trans rfl,(ZI k 4).trans rfl⟩
end
theorem new_box (w:World) (cs:Array Value) (t:TypeId):∃w' b,w'=w.alloc (.cells cs t)∧b=w.heap.size∧Below w.heap.size w w'∧w'.heap[b]?=some (.cells cs t (0,0)):=
 ⟨_,_,rfl,rfl,(ZR _ w).alloc (Nat.le_refl _) _,ZW w _⟩
theorem new_two (w:World) (cs ds:Array Value) (t u:TypeId):∃w' b c,w'=(w.alloc (.cells cs t)).alloc (.cells ds u)∧b=w.heap.size∧c=w.heap.size+1∧Below w.heap.size w w'∧w'.heap[b]?=some (.cells cs t (0,0))∧w'.heap[c]?=some (.cells ds u (0,0)):=
 ⟨_,_,_,rfl,rfl,rfl,((ZR _ w).alloc (Nat.le_refl _) _).alloc (by simp) _,(two_made w cs ds t u).1,(two_made w cs ds t u).2⟩
theorem new_three (w:World) (cs ds es:Array Value) (t u v:TypeId):∃w' b c d,w'=((w.alloc (.cells cs t)).alloc (.cells ds u)).alloc (.cells es v)∧b=w.heap.size∧c=w.heap.size+1∧d=w.heap.size+1+1∧Below w.heap.size w w'∧w'.heap[b]?=some (.cells cs t (0,0))∧w'.heap[c]?=some (.cells ds u (0,0))∧w'.heap[d]?=some (.cells es v (0,0)):=
 ⟨_,_,_,_,rfl,rfl,rfl,rfl,(((ZR _ w).alloc (Nat.le_refl _) _).alloc (by simp) _).alloc (by simp; omega) _,(three_made w cs ds es t u v).1,(three_made w cs ds es t u v).2.1,(three_made w cs ds es t u v).2.2⟩
theorem drawn_box (w:World) (n:Nat):∃w',w'=w.drewN n∧Below w.heap.size w w':=⟨_,rfl,below_drawn w n⟩
end Go.Proofs.YtdcaaehapdhckaaGreatDoor
set_option maxRecDepth 100000
namespace Go.FlowX
open Go Go.RowKit Go.Flow

theorem lt_blk {w:World} {b:Nat} {o:Obj} (h:w.heap[b]?=some o):b<w.heap.size:=(Array.getElem?_eq_some_iff.1 h).1
theorem blk_of {b c:Nat} (e:Value.pointer (some ⟨b,0,none⟩)=Value.pointer (some ⟨c,0,none⟩)):b=c:=by
 injection e with e
 injection e with e
 injection e
structure TwoBox (B:Nat) (cs:Array Value) (t:TypeId) (p q:Nat) (L:Nat→Bool) (xs:Nat→Value) (w:World):Prop where
 one:L p=true→∃b,xs p=.pointer (some ⟨b,0,none⟩)∧B≤b∧w.heap[b]?=some (.cells cs t (0,0))
 two:L q=true→∃b,xs q=.pointer (some ⟨b,0,none⟩)∧B≤b∧w.heap[b]?=some (.cells cs t (0,0))
 ne:L p=true→L q=true→xs p≠xs q
section
variable {B:Nat} {cs:Array Value} {t:TypeId} {p q:Nat} {L L':Nat→Bool} {xs xs':Nat→Value} {w w':World}
theorem TwoBox.init (xs:Nat→Value) (w:World):TwoBox B cs t p q (fun _=>false) xs w:=⟨fun e=>by simp at e,fun e=>by simp at e,fun e=>by simp at e⟩
theorem TwoBox.below (h:TwoBox B cs t p q L xs w) (hp:L' p=L p∧xs' p=xs p) (hq:L' q=L q∧xs' q=xs q) (hb:Below w.heap.size w w'):TwoBox B cs t p q L' xs' w':=by
 refine ⟨fun e=>?_,fun e=>?_,fun e f=>?_⟩
 ·rw[hp.1] at e
  obtain ⟨b,h1,h2,h3⟩:=h.one e
  exact ⟨b,by rw[hp.2]; exact h1,h2,(hb.block b (lt_blk h3)).trans h3⟩
 ·rw[hq.1] at e
  obtain ⟨b,h1,h2,h3⟩:=h.two e
  exact ⟨b,by rw[hq.2]; exact h1,h2,(hb.block b (lt_blk h3)).trans h3⟩
 ·rw[hp.1] at e
  rw[hq.1] at f
  rw[hp.2,hq.2]
  exact h.ne e f
theorem TwoBox.make1 (h:TwoBox B cs t p q L xs w) (hB:B≤w.heap.size) (hpq:q≠p):TwoBox B cs t p q (setL L p) (upd xs p (.pointer (some ⟨w.heap.size,0,none⟩))) (w.alloc (.cells cs t)):=by
 have hb:Below w.heap.size w (w.alloc (.cells cs t)):=(Below.refl _ w).alloc (Nat.le_refl _) _
 have eq1:setL L p q=L q:=by unfold setL; simp[hpq]
 have eq2:upd xs p (.pointer (some ⟨w.heap.size,0,none⟩)) q=xs q:=by unfold upd; rw[if_neg hpq]
 have ep:upd xs p (.pointer (some ⟨w.heap.size,0,none⟩)) p=.pointer (some ⟨w.heap.size,0,none⟩):=by unfold upd; rw[if_pos rfl]
 refine ⟨fun _=>⟨_,ep,hB,heap_alloc_new w _⟩,fun e=>?_,fun _ f=>?_⟩
 ·rw[eq1] at e
  obtain ⟨b,h1,h2,h3⟩:=h.two e
  exact ⟨b,by rw[eq2]; exact h1,h2,(hb.block b (lt_blk h3)).trans h3⟩
 ·rw[eq1] at f
  obtain ⟨b,h1,h2,h3⟩:=h.two f
  rw[ep,eq2,h1]
  have:=lt_blk h3
  intro e
  have e2:=blk_of e
  omega
theorem TwoBox.make2 (h:TwoBox B cs t p q L xs w) (hB:B≤w.heap.size) (hpq:p≠q):TwoBox B cs t p q (setL L q) (upd xs q (.pointer (some ⟨w.heap.size,0,none⟩))) (w.alloc (.cells cs t)):=by
 have hb:Below w.heap.size w (w.alloc (.cells cs t)):=(Below.refl _ w).alloc (Nat.le_refl _) _
 have eq1:setL L q p=L p:=by unfold setL; simp[hpq]
 have eq2:upd xs q (.pointer (some ⟨w.heap.size,0,none⟩)) p=xs p:=by unfold upd; rw[if_neg hpq]
 have ep:upd xs q (.pointer (some ⟨w.heap.size,0,none⟩)) q=.pointer (some ⟨w.heap.size,0,none⟩):=by unfold upd; rw[if_pos rfl]
 refine ⟨fun e=>?_,fun _=>⟨_,ep,hB,heap_alloc_new w _⟩,fun f _=>?_⟩
 ·rw[eq1] at e
  obtain ⟨b,h1,h2,h3⟩:=h.one e
  exact ⟨b,by rw[eq2]; exact h1,h2,(hb.block b (lt_blk h3)).trans h3⟩
 ·rw[eq1] at f
  obtain ⟨b,h1,h2,h3⟩:=h.one f
  rw[ep,eq2,h1]
  have:=lt_blk h3
  intro e
  have e2:=blk_of e
  omega
theorem TwoBox.both (h:TwoBox B cs t p q L xs w) (hp:L p=true) (hq:L q=true):∃b c,xs p=.pointer (some ⟨b,0,none⟩)∧xs q=.pointer (some ⟨c,0,none⟩)∧b≠c∧B≤b∧B≤c∧w.heap[b]?=some (.cells cs t (0,0))∧w.heap[c]?=some (.cells cs t (0,0)):=by
 obtain ⟨b,h1,h2,h3⟩:=h.one hp
 obtain ⟨c,k1,k2,k3⟩:=h.two hq
 refine ⟨b,c,h1,k1,fun e=>h.ne hp hq ?_,h2,k2,h3,k3⟩
 rw[h1,k1,e]
end
end Go.FlowX
set_option maxRecDepth 100000
namespace Go.Proofs.YtdcaaehapdhckaaGreatDoor
open Go.RowKit Go.Num Go.Flow
open Go.Gx (mn mx)
set_option maxHeartbeats 4000000

theorem cmpq_lt {r s:Rat}:cmpQ r s<0↔r<s:=by
 unfold cmpQ
 split
 ·next h=>simp[h]
 ·next h=>split<;>simp[h]
theorem cmpq_gt {r s:Rat}:0<cmpQ r s↔s<r:=by
 unfold cmpQ
 split
 ·next h=>simp; grind
 ·next h=>split<;>simp_all
theorem ratMin_any {w:World} {va vb:Value} {r s:Rat} {k:Nat} (ha:RtIn w va r k) (hb:RtIn w vb s k) (hk:2≤k) (hkm:k+k≤900000):Calls Tryz.prog 76 #[va,vb] w fun e w'=>∃v,e=.returned v∧RtIn w' v (mn r s) k∧Below w.heap.size w w':=by
 obtain ⟨s1,a1,c1,l1,s2,a2,c2,l2,rfl⟩:=rt_shape ha
 obtain ⟨t1,b1,d1,m1,t2,b2,d2,m2,rfl⟩:=rt_shape hb
 obtain ⟨wa,ba,bb,bc,hwa,hba,hbb,hbc,hal,k0,k1,k2⟩:=new_three w #[.bool s1,.slice a1 c1 l1,.bool s2,.slice a2 c2 l2] #[.bool t1,.slice b1 d1 m1,.bool t2,.slice b2 d2 m2] #[.bool false,.slice none 0 0,.bool false,.slice none 0 0] 47 47 47
 have HC:=ZH (ratCompare_any (hb.below hal) (ha.below hal) hk hk hkm)
 have HAL:=ZH (ZN hal (ZN k0 (ZN k1 (ZN k2 (show w.heap.size≤bc by omega)))))
 have HR:=ZH (ZN (ha.below hal) (hb.below hal))
 have HW:=ZH (ZN hwa (ZN hba (ZN hbb hbc)))
 obtain ⟨x0,x1,x2,x3⟩:=cells4 (ZR _ wa) k0
 obtain ⟨y0,y1,y2,y3⟩:=cells4 (ZR _ wa) k1
 clear hwa hba hbb hbc hal k0 k1 k2 ha hb
 go_enter Tryz.func76,Tryz.ntmps76
 go_upto_region 1 with fail
 rw[←HW.out.1,←HW.out.2.2.2,←HW.out.2.2.1,←HW.out.2.1]
 clear HW
 go_wp2_with fail
 refine HC.out.mono ?_
 rintro e w3 ⟨rfl,hb3⟩
 have hk2:=(hb3.block bc (ZL HAL.out.2.2.2.1)).trans HAL.out.2.2.2.1
 obtain ⟨z0,z1,z2,z3⟩:=cells4 (ZR _ w3) hk2
 have f0:=ZF hk2 0
 have f1:=ZF hk2 1
 have f2:=ZF hk2 2
 have f3:=ZF hk2 3
 have hB:Below w.heap.size w w3:=HAL.out.1.trans (hb3.mono HAL.out.1.size)
 by_cases hlt:s<r
 ·have e1:(cmpQ s r<0)=True:=eq_true (cmpq_lt.2 hlt)
  obtain ⟨y0,y1,y2,y3⟩:=cells4 hb3 HAL.out.2.2.1
  have HF:=ZH (show RtIn _ _ (mn r s) k from (by rw[show mn r s=s by unfold mn; rw[if_pos hlt]]; exact (HR.out.2.below hb3).but (nodig4 hk2) (But.set4 (b:=bc) w3 (.bool t1) (.slice b1 d1 m1) (.bool t2) (.slice b2 d2 m2))))
  have HBF:=ZH ((((hB.setCell (p:=⟨bc,0,none⟩) HAL.out.2.2.2.2 (.bool t1)).setCell (p:=⟨bc,1,none⟩) HAL.out.2.2.2.2 (.slice b1 d1 m1)).setCell (p:=⟨bc,2,none⟩) HAL.out.2.2.2.2 (.bool t2)).setCell (p:=⟨bc,3,none⟩) HAL.out.2.2.2.2 (.slice b2 d2 m2))
  clear hlt hk2 hB hb3
  go_wp2_with fail
  exact bodyPost_ret (v:=.agg #[.bool t1,.slice b1 d1 m1,.bool t2,.slice b2 d2 m2]) (by simp[results,Tryz.results76,go_sem,z0,z1,z2,z3]) rfl ⟨_,rfl,HF.out,HBF.out⟩
 ·have e1:(cmpQ s r<0)=False:=eq_false (fun h=>hlt (cmpq_lt.1 h))
  obtain ⟨x0,x1,x2,x3⟩:=cells4 hb3 HAL.out.2.1
  have HF:=ZH (show RtIn _ _ (mn r s) k from (by rw[show mn r s=r by unfold mn; rw[if_neg hlt]]; exact (HR.out.1.below hb3).but (nodig4 hk2) (But.set4 (b:=bc) w3 (.bool s1) (.slice a1 c1 l1) (.bool s2) (.slice a2 c2 l2))))
  have HBF:=ZH ((((hB.setCell (p:=⟨bc,0,none⟩) HAL.out.2.2.2.2 (.bool s1)).setCell (p:=⟨bc,1,none⟩) HAL.out.2.2.2.2 (.slice a1 c1 l1)).setCell (p:=⟨bc,2,none⟩) HAL.out.2.2.2.2 (.bool s2)).setCell (p:=⟨bc,3,none⟩) HAL.out.2.2.2.2 (.slice a2 c2 l2))
  clear hlt hk2 hB hb3
  go_wp2_with fail
  exact bodyPost_ret (v:=.agg #[.bool s1,.slice a1 c1 l1,.bool s2,.slice a2 c2 l2]) (by simp[results,Tryz.results76,go_sem,z0,z1,z2,z3]) rfl ⟨_,rfl,HF.out,HBF.out⟩
theorem ratMax_any {w:World} {va vb:Value} {r s:Rat} {k:Nat} (ha:RtIn w va r k) (hb:RtIn w vb s k) (hk:2≤k) (hkm:k+k≤900000):Calls Tryz.prog 77 #[va,vb] w fun e w'=>∃v,e=.returned v∧RtIn w' v (mx r s) k∧Below w.heap.size w w':=by
 obtain ⟨s1,a1,c1,l1,s2,a2,c2,l2,rfl⟩:=rt_shape ha
 obtain ⟨t1,b1,d1,m1,t2,b2,d2,m2,rfl⟩:=rt_shape hb
 obtain ⟨wa,ba,bb,bc,hwa,hba,hbb,hbc,hal,k0,k1,k2⟩:=new_three w #[.bool s1,.slice a1 c1 l1,.bool s2,.slice a2 c2 l2] #[.bool t1,.slice b1 d1 m1,.bool t2,.slice b2 d2 m2] #[.bool false,.slice none 0 0,.bool false,.slice none 0 0] 47 47 47
 have HC:=ZH (ratCompare_any (hb.below hal) (ha.below hal) hk hk hkm)
 have HAL:=ZH (ZN hal (ZN k0 (ZN k1 (ZN k2 (show w.heap.size≤bc by omega)))))
 have HR:=ZH (ZN (ha.below hal) (hb.below hal))
 have HW:=ZH (ZN hwa (ZN hba (ZN hbb hbc)))
 obtain ⟨x0,x1,x2,x3⟩:=cells4 (ZR _ wa) k0
 obtain ⟨y0,y1,y2,y3⟩:=cells4 (ZR _ wa) k1
 clear hwa hba hbb hbc hal k0 k1 k2 ha hb
 go_enter Tryz.func77,Tryz.ntmps77
 go_upto_region 1 with fail
 rw[←HW.out.1,←HW.out.2.2.2,←HW.out.2.2.1,←HW.out.2.1]
 clear HW
 go_wp2_with fail
 refine HC.out.mono ?_
 rintro e w3 ⟨rfl,hb3⟩
 have hk2:=(hb3.block bc (ZL HAL.out.2.2.2.1)).trans HAL.out.2.2.2.1
 obtain ⟨z0,z1,z2,z3⟩:=cells4 (ZR _ w3) hk2
 have f0:=ZF hk2 0
 have f1:=ZF hk2 1
 have f2:=ZF hk2 2
 have f3:=ZF hk2 3
 have hB:Below w.heap.size w w3:=HAL.out.1.trans (hb3.mono HAL.out.1.size)
 by_cases hlt:r<s
 ·have e1:(0<cmpQ s r)=True:=eq_true (cmpq_gt.2 hlt)
  obtain ⟨y0,y1,y2,y3⟩:=cells4 hb3 HAL.out.2.2.1
  have HF:=ZH (show RtIn _ _ (mx r s) k from (by rw[show mx r s=s by unfold mx; rw[if_pos hlt]]; exact (HR.out.2.below hb3).but (nodig4 hk2) (But.set4 (b:=bc) w3 (.bool t1) (.slice b1 d1 m1) (.bool t2) (.slice b2 d2 m2))))
  have HBF:=ZH ((((hB.setCell (p:=⟨bc,0,none⟩) HAL.out.2.2.2.2 (.bool t1)).setCell (p:=⟨bc,1,none⟩) HAL.out.2.2.2.2 (.slice b1 d1 m1)).setCell (p:=⟨bc,2,none⟩) HAL.out.2.2.2.2 (.bool t2)).setCell (p:=⟨bc,3,none⟩) HAL.out.2.2.2.2 (.slice b2 d2 m2))
  clear hlt hk2 hB hb3
  go_wp2_with fail
  exact bodyPost_ret (v:=.agg #[.bool t1,.slice b1 d1 m1,.bool t2,.slice b2 d2 m2]) (by simp[results,Tryz.results77,go_sem,z0,z1,z2,z3]) rfl ⟨_,rfl,HF.out,HBF.out⟩
 ·have e1:(0<cmpQ s r)=False:=eq_false (fun h=>hlt (cmpq_gt.1 h))
  obtain ⟨x0,x1,x2,x3⟩:=cells4 hb3 HAL.out.2.1
  have HF:=ZH (show RtIn _ _ (mx r s) k from (by rw[show mx r s=r by unfold mx; rw[if_neg hlt]]; exact (HR.out.1.below hb3).but (nodig4 hk2) (But.set4 (b:=bc) w3 (.bool s1) (.slice a1 c1 l1) (.bool s2) (.slice a2 c2 l2))))
  have HBF:=ZH ((((hB.setCell (p:=⟨bc,0,none⟩) HAL.out.2.2.2.2 (.bool s1)).setCell (p:=⟨bc,1,none⟩) HAL.out.2.2.2.2 (.slice a1 c1 l1)).setCell (p:=⟨bc,2,none⟩) HAL.out.2.2.2.2 (.bool s2)).setCell (p:=⟨bc,3,none⟩) HAL.out.2.2.2.2 (.slice a2 c2 l2))
  clear hlt hk2 hB hb3
  go_wp2_with fail
  exact bodyPost_ret (v:=.agg #[.bool s1,.slice a1 c1 l1,.bool s2,.slice a2 c2 l2]) (by simp[results,Tryz.results77,go_sem,z0,z1,z2,z3]) rfl ⟨_,rfl,HF.out,HBF.out⟩
end Go.Proofs.YtdcaaehapdhckaaGreatDoor
