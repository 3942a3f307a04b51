/- A rational put into a box of one's own. -/
import Derived.Test.YtdgimcmappmjdaaGreatDoorKW
set_option linter.unusedSimpArgs false
set_option linter.unusedVariables false
set_option maxRecDepth 100000
namespace Go.Proofs.YtdgimcmappmjdaaGreatDoor
open Go.RowKit Go.Num Go.Flow
set_option maxHeartbeats 4000000

theorem free4 {w:World} {b:Nat} {cs:Array Value} {t:TypeId} (h:w.heap[b]?=some (.cells cs t (0,0))):w.frozen? ⟨b,0,none⟩=false∧w.frozen? ⟨b,1,none⟩=false∧w.frozen? ⟨b,2,none⟩=false∧w.frozen? ⟨b,3,none⟩=false:=⟨ZF h 0,ZF h 1,ZF h 2,ZF h 3⟩
structure Put (B:Nat) (w0:World) (b:Nat) (w w':World) (x0 x1 x2 x3:Value) (r:Rat) (K:Nat):Prop where
 block:w'.heap[b]?=some (.cells #[x0,x1,x2,x3] 43 (0,0))
 rt:RtIn w' (.agg #[x0,x1,x2,x3]) r K
 below:Below B w0 w'
 but:But b w w'
theorem rat_put {w0 w:World} {B b:Nat} {s1:Bool} {a1:Option Addr} {c1 l1:Nat} {s2:Bool} {a2:Option Addr} {c2 l2:Nat} (hk:w.heap[b]?=some (.cells #[.bool s1,.slice a1 c1 l1,.bool s2,.slice a2 c2 l2] 43 (0,0))) (hB:B≤b) (hb:Below B w0 w) {p1:Bool} {d1:Option Addr} {e1 m1:Nat} {p2:Bool} {d2:Option Addr} {e2 m2:Nat} {r:Rat} {K:Nat} (hr:RtIn w (.agg #[.bool p1,.slice d1 e1 m1,.bool p2,.slice d2 e2 m2]) r K) :
  Put B w0 b w ((((w.setCell ⟨b,0,none⟩ (.bool p1)).setCell ⟨b,1,none⟩ (.slice d1 e1 m1)).setCell ⟨b,2,none⟩ (.bool p2)).setCell ⟨b,3,none⟩ (.slice d2 e2 m2)) (.bool p1) (.slice d1 e1 m1) (.bool p2) (.slice d2 e2 m2) r K:=
 ⟨four_set hk _ _ _ _,hr.but (nodig4 hk) (But.set4 w _ _ _ _),(((hb.setCell (p:=⟨b,0,none⟩) hB _).setCell (p:=⟨b,1,none⟩) hB _).setCell (p:=⟨b,2,none⟩) hB _).setCell (p:=⟨b,3,none⟩) hB _,But.set4 w _ _ _ _⟩
structure Put2 (B:Nat) (w0:World) (bl bh:Nat) (w w':World) (x0 x1 x2 x3 y0 y1 y2 y3:Value) (r:Rat) (K:Nat) (s:Rat) (M:Nat):Prop where
 kl:w'.heap[bl]?=some (.cells #[x0,x1,x2,x3] 43 (0,0))
 kh:w'.heap[bh]?=some (.cells #[y0,y1,y2,y3] 43 (0,0))
 r1:RtIn w' (.agg #[x0,x1,x2,x3]) r K
 r2:RtIn w' (.agg #[y0,y1,y2,y3]) s M
 below:Below B w0 w'
 but:∀(b:Nat) (o:Obj),b≠bl→b≠bh→w.heap[b]?=some o→w'.heap[b]?=some o
theorem two_put {w0 w:World} {B bl bh:Nat} {s1:Bool} {a1:Option Addr} {c1 l1:Nat} {s2:Bool} {a2:Option Addr} {c2 l2:Nat} {t1:Bool} {b1:Option Addr} {d1 m1:Nat} {t2:Bool} {b2:Option Addr} {d2 m2:Nat}
  (hl:w.heap[bl]?=some (.cells #[.bool s1,.slice a1 c1 l1,.bool s2,.slice a2 c2 l2] 43 (0,0))) (hh:w.heap[bh]?=some (.cells #[.bool t1,.slice b1 d1 m1,.bool t2,.slice b2 d2 m2] 43 (0,0))) (hne:bl≠bh) (hBl:B≤bl) (hBh:B≤bh) (hb:Below B w0 w)
  {p1:Bool} {g1:Option Addr} {e1 n1:Nat} {p2:Bool} {g2:Option Addr} {e2 n2:Nat} {q1:Bool} {h1:Option Addr} {i1 k1:Nat} {q2:Bool} {h2:Option Addr} {i2 k2:Nat} {r s:Rat} {K M:Nat}
  (hr:RtIn w (.agg #[.bool p1,.slice g1 e1 n1,.bool p2,.slice g2 e2 n2]) r K) (hs:RtIn w (.agg #[.bool q1,.slice h1 i1 k1,.bool q2,.slice h2 i2 k2]) s M) :
  Put2 B w0 bl bh w ((((((((w.setCell ⟨bl,0,none⟩ (.bool p1)).setCell ⟨bl,1,none⟩ (.slice g1 e1 n1)).setCell ⟨bl,2,none⟩ (.bool p2)).setCell ⟨bl,3,none⟩ (.slice g2 e2 n2)).setCell ⟨bh,0,none⟩ (.bool q1)).setCell ⟨bh,1,none⟩ (.slice h1 i1 k1)).setCell ⟨bh,2,none⟩ (.bool q2)).setCell ⟨bh,3,none⟩ (.slice h2 i2 k2)) (.bool p1) (.slice g1 e1 n1) (.bool p2) (.slice g2 e2 n2) (.bool q1) (.slice h1 i1 k1) (.bool q2) (.slice h2 i2 k2) r K s M:=by
 have f:=rat_put hl hBl hb hr
 have fh:=(f.but.block bh hne.symm (ZL hh)).trans hh
 have hs':=hs.but (nodig4 hl) f.but
 have g:=rat_put fh hBh f.below hs'
 exact ⟨(g.but.block bl hne (ZL f.block)).trans f.block,g.block,f.rt.but (nodig4 fh) g.but,g.rt,g.below,fun b o h1 h2 h=>by
  have h3:=(f.but.block b h1 (ZL h)).trans h
  exact (g.but.block b h2 (ZL h3)).trans h3⟩
theorem Put2.drew {B:Nat} {w0:World} {bl bh:Nat} {w w':World} {x0 x1 x2 x3 y0 y1 y2 y3:Value} {r:Rat} {K:Nat} {s:Rat} {M:Nat} (h:Put2 B w0 bl bh w w' x0 x1 x2 x3 y0 y1 y2 y3 r K s M):Put2 B w0 bl bh w w'.drew x0 x1 x2 x3 y0 y1 y2 y3 r K s M:=by
 have hd:Below w'.heap.size w' w'.drew:=(ZR _ _).drew
 exact ⟨(hd.block bl (ZL h.kl)).trans h.kl,(hd.block bh (ZL h.kh)).trans h.kh,h.r1.below hd,h.r2.below hd,h.below.drew,fun b o h1 h2 k=>(hd.block b (ZL (h.but b o h1 h2 k))).trans (h.but b o h1 h2 k)⟩
end Go.Proofs.YtdgimcmappmjdaaGreatDoor
set_option maxRecDepth 100000
namespace Go.Proofs.YtdgimcmappmjdaaGreatDoor
open Go.RowKit Go.Num
set_option maxHeartbeats 4000000

theorem iAbs_any {w:World} {v:Value} {z:Int} {k:Nat} (h:IntIn w v z k):Calls Tryz.prog 117 #[v] w fun e w'=>∃v',e=.returned v'∧IntIn w' v' (z.natAbs:Int) k∧Below w.heap.size w w':=by
  obtain ⟨neg,ao,c,l,rfl,hm,hn,hs,rfl,hk,hc1,hc2⟩:=int_sign h
  have hp:=norm_pos hn
  obtain ⟨N,hN⟩:∃N,N=l.length:=⟨_,rfl⟩
  obtain ⟨wa,ac⟩:∃wa,wa=(w.alloc (.cells #[.bool neg,.slice ao N c] 41)).alloc (.cells #[.bool false,.slice none 0 0] 41):=⟨_,rfl⟩
  obtain ⟨ba,ae⟩:∃ba,ba=w.heap.size:=⟨_,rfl⟩
  obtain ⟨bb,af⟩:∃bb,bb=w.heap.size+1:=⟨_,rfl⟩
  have ah:Below w.heap.size w wa:=by rw[ac]; exact ((ZR _ w).alloc (Nat.le_refl _) _).alloc (by simp) _
  obtain ⟨k1,k2⟩:=two_made w #[.bool neg,.slice ao N c] #[.bool false,.slice none 0 0] 41 41
  rw[←ac,←ae] at k1
  rw[←ac,←af] at k2
  have x0:=ZI k1 0
  have x1:=ZI k1 1
  have y0:=ZI k2 0
  have y1:=ZI k2 1
  have f0:=ZF k2 0
  have f1:=ZF k2 1
  simp at x0 x1 y0 y1
  have hne:¬ba=bb:=by omega
  have ai:∀a b:Value,Below w.heap.size w ((wa.setCell ⟨bb,0,none⟩ a).setCell ⟨bb,1,none⟩ b):=fun a b=>(ah.setCell (show w.heap.size≤bb by omega) a).setCell (show w.heap.size≤bb by omega) b
  have aa:∀w',Below w.heap.size w w'→IntIn w' (.agg #[.bool false,.slice ao N c]) (((int neg l).natAbs:Nat):Int) k:=fun w' hw=>by
    have:=int_made (neg:=false) (b:=false) hm (Nat.le_refl _) (by rw[List.take_length]; exact hn) (by rw[List.take_length]) hw (by simp)
    rw[←hN] at this
    rw[show (((int neg l).natAbs:Nat):Int)=int false l by unfold int; cases neg<;>simp]
    exact this.more (by omega)
  have ad:=ZH aa
  have ag:=ZH ai
  have HW:=ZH (ZN ac (ZN ae af))
  rw[←hN] at hc1⊢
  clear h hm hn hs hp hN ah hk aa ai k1 k2 ac ae af
  go_enter Tryz.func117,Tryz.ntmps117
  go_upto_region 1 with fail
  rw[←HW.out.1,←HW.out.2.2,←HW.out.2.1]
  clear HW
  go_wp2_with fail
  exact bodyPost_ret (v:=.agg #[.bool false,.slice ao N c]) (by simp[results,Tryz.results117,go_sem,y0,y1]) rfl ⟨_,rfl,ad.out _ (ag.out _ _),ag.out _ _⟩
theorem rAbs_any {w:World} {v:Value} {p q:Int} {k:Nat} (h:RatIn w v p q k):Calls Tryz.prog 77 #[v] w fun e w'=>∃v',e=.returned v'∧RatIn w' v' (p.natAbs:Int) q k∧Below w.heap.size w w':=by
  obtain ⟨n1,m1,n2,m2,rfl,h1,h2,h3⟩:=h
  obtain ⟨s2,a2,c2,l2,e2,-⟩:=int_sign h2
  simp at e2
  obtain ⟨-,rfl⟩:=e2
  generalize l2.length=N2 at *
  obtain ⟨wa,ae⟩:∃wa,wa=(w.alloc (.cells #[.bool n1,m1,.bool n2,.slice a2 N2 c2] 43)).alloc (.cells #[.bool false,.slice none 0 0,.bool false,.slice none 0 0] 43):=⟨_,rfl⟩
  obtain ⟨ba,ai⟩:∃ba,ba=w.heap.size:=⟨_,rfl⟩
  obtain ⟨bc,ag⟩:∃bc,bc=w.heap.size+1:=⟨_,rfl⟩
  have af:Below w.heap.size w wa:=by rw[ae]; exact ((ZR _ w).alloc (Nat.le_refl _) _).alloc (by simp) _
  obtain ⟨k1,k2⟩:=two_made w #[.bool n1,m1,.bool n2,.slice a2 N2 c2] #[.bool false,.slice none 0 0,.bool false,.slice none 0 0] 43 43
  rw[←ae,←ai] at k1
  rw[←ae,←ag] at k2
  have x0:=ZI k1 0
  have x1:=ZI k1 1
  have x2:=ZI k1 2
  have x3:=ZI k1 3
  have z0:=ZI k2 0
  have z1:=ZI k2 1
  have z2:=ZI k2 2
  have z3:=ZI k2 3
  have f0:=ZF k2 0
  have f1:=ZF k2 1
  have f2:=ZF k2 2
  have f3:=ZF k2 3
  simp at x0 x1 x2 x3 z0 z1 z2 z3
  have al:bc<wa.heap.size:=ZL k2
  have aj:w.heap.size≤bc:=by omega
  have n3:¬ba=bc:=by omega
  have n4:¬bc=ba:=by omega
  have H1:=ZH (ZN (h1.below af) (ZN (h2.below af) h3))
  have ac:=ZH (ZN af (ZN aj (ZN al k2)))
  have HW:=ZH (ZN ae (ZN ai ag))
  clear h1 h2 h3 af k1 k2 ae ai ag al aj
  go_enter Tryz.func77,Tryz.ntmps77
  go_upto_region 1 with fail
  rw[←HW.out.1,←HW.out.2.2,←HW.out.2.1]
  clear HW
  go_region_held3 (fun w'=>w'.cell? ⟨ba,0,none⟩=some (.bool n1)∧w'.cell? ⟨ba,1,none⟩=some m1∧w'.cell? ⟨ba,2,none⟩=some (.bool n2)∧w'.cell? ⟨ba,3,none⟩=some (.slice a2 N2 c2)) (go_keep)
    (first
      | (go_at_call 117
         refine (iAbs_any (H1.out.1.below (ZR _ wa).drew)).mono ?_
         rintro e w3 ⟨v3,rfl,ah,aa⟩
         obtain ⟨s4,a4,c4,l4,rfl,-⟩:=int_sign ah
         have x0:=ZJ aa x0
         have x1:=ZJ aa x1
         have x2:=ZJ aa x2
         have x3:=ZJ aa x3
         have z0:=ZJ aa z0
         have z1:=ZJ aa z1
         have z2:=ZJ aa z2
         have z3:=ZJ aa z3
         have f0:=frozen_below aa (p:=⟨bc,0,none⟩) ac.out.2.2.1 f0
         have f1:=frozen_below aa (p:=⟨bc,1,none⟩) ac.out.2.2.1 f1
         have f2:=frozen_below aa (p:=⟨bc,2,none⟩) ac.out.2.2.1 f2
         have f3:=frozen_below aa (p:=⟨bc,3,none⟩) ac.out.2.2.1 f3
         have H3:=ZH (ZN ah aa)
         clear ah aa))
  all_goals
    have ad:=(H3.out.2.block bc ac.out.2.2.1).trans ac.out.2.2.2
    have hi:=H3.out.1.store4 ad (.bool s4) (.slice a4 l4.length c4) (.bool n2) (.slice a2 N2 c2)
    have hj:=((H1.out.2.1.below (ZR _ wa).drew).below H3.out.2).store4 ad (.bool s4) (.slice a4 l4.length c4) (.bool n2) (.slice a2 N2 c2)
    have ak:Below w.heap.size w ((((w3.setCell ⟨bc,0,none⟩ (.bool s4)).setCell ⟨bc,1,none⟩ (.slice a4 l4.length c4)).setCell ⟨bc,2,none⟩ (.bool n2)).setCell ⟨bc,3,none⟩ (.slice a2 N2 c2)):=
      (((((ac.out.1.drew).trans (H3.out.2.mono ac.out.1.size)).setCell ac.out.2.1 _).setCell ac.out.2.1 _).setCell ac.out.2.1 _).setCell ac.out.2.1 _
    have HF:=ZH (ZN hi (ZN hj ak))
    clear ad hi hj ak
    go_wp2_with fail
    exact bodyPost_ret (v:=.agg #[.bool s4,.slice a4 l4.length c4,.bool n2,.slice a2 N2 c2]) (by simp[results,Tryz.results77,go_sem,z0,z1,z2,z3]) rfl ⟨_,rfl,⟨_,_,_,_,rfl,HF.out.1,HF.out.2.1,H1.out.2.2⟩,HF.out.2.2⟩
open Go.Gx (ab)
theorem ratAbs_any {w:World} {v:Value} {r:Rat} {k:Nat} (h:RtIn w v r k):Calls Tryz.prog 77 #[v] w fun e w'=>∃v',e=.returned v'∧RtIn w' v' (ab r) k∧Below w.heap.size w w':=by
  obtain ⟨q,h1,h2⟩:=h
  have e:(ab r).num=(r.num.natAbs:Int)∧(ab r).den=r.den:=by
    unfold ab
    split
    · next h=>
      have hn:r.num<0:=by have:=Rat.num_nonneg (q:=r); grind
      exact ⟨by rw[Rat.neg_num]; omega,Rat.neg_den r⟩
    · next h=>
      have hn:¬r.num<0:=by have:=Rat.num_nonneg (q:=r); grind
      exact ⟨by omega,rfl⟩
  exact (rAbs_any h1).mono fun _ _ ⟨v,e1,h,hb⟩=>⟨v,e1,⟨q,by rw[e.1]; exact h,by rw[e.2]; exact h2⟩,hb⟩
open Go.RowKit Go.Num Go.Flow
open Go.Gx (ab mn mx)
set_option maxHeartbeats 8000000
theorem cmp_ltz (r:Rat):cmpI r.num 0<0↔r<0:=by
 have h1:cmpI r.num 0<0↔r.num<0:=by
  unfold cmpI
  split
  ·simp_all
  ·split<;>simp_all
 have h2:=Rat.num_nonneg (q:=r)
 rw[h1]
 constructor
 ·intro h
  exact Rat.not_le.1 fun h3=>by have:=h2.2 h3; omega
 ·intro h
  have h3:¬(0≤r.num):=fun h3=>Rat.not_le.2 h (h2.1 h3)
  omega
theorem pabs_any {w:World} {v:Value} {r:Rat} {k:Nat} (h:RtIn w v r k):Calls Tryz.prog 103 #[v] w fun e w'=>∃v',e=.returned v'∧RtIn w' v' (ab r) k∧Below w.heap.size w w':=by
 obtain ⟨s1,a1,c1,l1,s2,a2,c2,l2,rfl⟩:=rt_shape h
 obtain ⟨wa,br,bc,al,am,aj,ag,k0,k1⟩:=new_two w #[.bool s1,.slice a1 c1 l1,.bool s2,.slice a2 c2 l2] #[.bool false,.slice none 0 0,.bool false,.slice none 0 0] 43 43
 have HW:=ZH (ZN al (ZN am aj))
 have ac:=ZH (ZN ag (show w.heap.size≤bc by omega))
 have HK:=ZH (ZN k0 k1)
 have HR:=ZH (h.below ag)
 obtain ⟨x0,x1,x2,x3⟩:=cells4 (ZR _ wa) k0
 clear h al am aj ag k0 k1
 go_enter Tryz.func103,Tryz.ntmps103
 go_upto_region 1 with fail
 rw[←HW.out.1,←HW.out.2.2,←HW.out.2.1]
 clear HW
 go_wp2_with fail
 refine (ratSign_any HR.out).mono ?_
 rintro e w1 ⟨rfl,ae⟩
 have ah:=ZH ae
 have af:=ZH (ZN ((ae.block br (ZL HK.out.1)).trans HK.out.1) ((ae.block bc (ZL HK.out.2)).trans HK.out.2))
 have ak:=ZH (HR.out.below ae)
 clear ae x0 x1 x2 x3
 obtain ⟨x0,x1,x2,x3⟩:=cells4 (ZR _ w1) af.out.1
 by_cases hq:r<0
 ·have e2:(cmpI r.num 0<0)=True:=eq_true ((cmp_ltz r).2 hq)
  have HQ:=ZH (show ab r = -r by unfold ab; rw[if_pos hq])
  clear hq
  go_wp2_with fail
  refine (ratNeg_any ak.out).mono ?_
  rintro e w2 ⟨v,rfl,hv,ai⟩
  obtain ⟨p1,g1,f1,n1,p2,g2,f2,n2,rfl⟩:=rt_shape hv
  have kc:=(ai.block bc (ZL af.out.2)).trans af.out.2
  obtain ⟨y0,y1,y2,y3⟩:=cells4 (ZR _ w2) kc
  have q0:=ZF kc 0
  have q1:=ZF kc 1
  have q2:=ZF kc 2
  have q3:=ZF kc 3
  have hu:=But.set4 (b:=bc) w2 (.bool p1) (.slice g1 f1 n1) (.bool p2) (.slice g2 f2 n2)
  have ad:=ah.out.trans (ai.mono ah.out.size)
  have hb:=ac.out.1.trans (ad.mono ac.out.1.size)
  have aa:=ac.out.2
  have HF:=ZH (ZN (hv.but (nodig4 kc) hu) ((((hb.setCell (p:=⟨bc,0,none⟩) aa (.bool p1)).setCell (p:=⟨bc,1,none⟩) aa (.slice g1 f1 n1)).setCell (p:=⟨bc,2,none⟩) aa (.bool p2)).setCell (p:=⟨bc,3,none⟩) aa (.slice g2 f2 n2)))
  clear hv ai kc hu ad hb aa x0 x1 x2 x3
  go_wp2_with fail
  exact bodyPost_ret (v:=.agg #[.bool p1,.slice g1 f1 n1,.bool p2,.slice g2 f2 n2]) (by simp[results,Tryz.results103,go_sem,y0,y1,y2,y3]) rfl ⟨_,rfl,by rw[HQ.out]; exact HF.out.1,HF.out.2⟩
 ·have e2:(cmpI r.num 0<0)=False:=eq_false (fun h=>hq ((cmp_ltz r).1 h))
  have HQ:=ZH (show ab r=r by unfold ab; rw[if_neg hq])
  clear hq
  have kc:=af.out.2
  obtain ⟨y0,y1,y2,y3⟩:=cells4 (ZR _ w1) kc
  have q0:=ZF kc 0
  have q1:=ZF kc 1
  have q2:=ZF kc 2
  have q3:=ZF kc 3
  have hu:=But.set4 (b:=bc) w1 (.bool s1) (.slice a1 c1 l1) (.bool s2) (.slice a2 c2 l2)
  have hb:=ac.out.1.trans (ah.out.mono ac.out.1.size)
  have aa:=ac.out.2
  have HF:=ZH (ZN (ak.out.but (nodig4 kc) hu) ((((hb.setCell (p:=⟨bc,0,none⟩) aa (.bool s1)).setCell (p:=⟨bc,1,none⟩) aa (.slice a1 c1 l1)).setCell (p:=⟨bc,2,none⟩) aa (.bool s2)).setCell (p:=⟨bc,3,none⟩) aa (.slice a2 c2 l2)))
  clear kc hu hb aa
  go_wp2_with fail
  exact bodyPost_ret (v:=.agg #[.bool s1,.slice a1 c1 l1,.bool s2,.slice a2 c2 l2]) (by simp[results,Tryz.results103,go_sem,y0,y1,y2,y3]) rfl ⟨_,rfl,by rw[HQ.out]; exact HF.out.1,HF.out.2⟩
open Go.Gx (mn mx)
theorem cmpQ_lt {a b:Rat}:cmpQ a b<0↔a<b:=by
 unfold cmpQ
 split
 ·next h=>exact ⟨fun _=>h,fun _=>by omega⟩
 ·next h=>exact ⟨fun h2=>by split at h2<;>omega,fun h2=>absurd h2 h⟩
theorem cmpQ_gt {a b:Rat}:0<cmpQ a b↔b<a:=by
 unfold cmpQ
 split
 ·next h=>exact ⟨fun h2=>by omega,fun h2=>absurd h2 (Rat.not_lt.2 (Rat.le_of_lt h))⟩
 ·next h=>
   split
   ·next h2=>exact ⟨fun _=>h2,fun _=>by omega⟩
   ·next h2=>exact ⟨fun h3=>by omega,fun h3=>absurd h3 h2⟩
theorem plesser_any {w:World} {va vb:Value} {r s:Rat} {k:Nat} (ha:RtIn w va r k) (hb:RtIn w vb s k) (hk:2≤k) (hk2:k≤400000):Calls Tryz.prog 105 #[va,vb] w fun e w'=>∃v',e=.returned v'∧RtIn w' v' (mn r s) k∧Below w.heap.size w w':=by
 obtain ⟨p1,pa,pb,pc,p2,pd,pe,pf,rfl⟩:=rt_shape ha
 obtain ⟨q1,qa,qb,qc,q2,qd,qe,qf,rfl⟩:=rt_shape hb
 obtain ⟨wa,b1,b2,bc,aj,ag,ai,af,ad,k0,k1,k2⟩:=new_three w #[.bool p1,.slice pa pb pc,.bool p2,.slice pd pe pf] #[.bool q1,.slice qa qb qc,.bool q2,.slice qd qe qf] #[.bool false,.slice none 0 0,.bool false,.slice none 0 0] 43 43 43
 have HW:=ZH (ZN aj (ZN ag (ZN ai af)))
 have ae:=ZH (ZN ad (show w.heap.size≤bc by omega))
 have HK:=ZH (ZN k0 (ZN k1 k2))
 have HR:=ZH (ZN (ha.below ad) (hb.below ad))
 obtain ⟨x0,x1,x2,x3⟩:=cells4 (ZR _ wa) k0
 obtain ⟨z0,z1,z2,z3⟩:=cells4 (ZR _ wa) k1
 clear ha hb aj ag ai af ad k0 k1 k2
 go_enter Tryz.func105,Tryz.ntmps105
 go_upto_region 1 with fail
 rw[←HW.out.1,←HW.out.2.2.2,←HW.out.2.2.1,←HW.out.2.1]
 clear HW
 go_wp2_with fail
 refine (ratCompare_any HR.out.2 HR.out.1 hk hk (by omega)).mono ?_
 rintro e w1 ⟨rfl,ac⟩
 clear x0 x1 x2 x3 z0 z1 z2 z3
 have ah:=ZH (ZN (HR.out.1.below ac) (HR.out.2.below ac))
 obtain ⟨x0,x1,x2,x3⟩:=cells4 ac HK.out.1
 obtain ⟨z0,z1,z2,z3⟩:=cells4 ac HK.out.2.1
 have kc:=(ac.block bc (ZL HK.out.2.2)).trans HK.out.2.2
 obtain ⟨y0,y1,y2,y3⟩:=cells4 (ZR _ w1) kc
 have g0:=ZF kc 0
 have g1:=ZF kc 1
 have g2:=ZF kc 2
 have g3:=ZF kc 3
 have hb:=ae.out.1.trans (ac.mono ae.out.1.size)
 have aa:=ae.out.2
 clear ac
 by_cases hq:s<r
 ·have e2:(cmpQ s r<0)=True:=eq_true (cmpQ_lt.2 hq)
  have HQ:=ZH (show mn r s=s by unfold mn; rw[if_pos hq])
  clear hq
  have HF:=ZH (ZN (ah.out.2.but (nodig4 kc) (But.set4 (b:=bc) w1 (.bool q1) (.slice qa qb qc) (.bool q2) (.slice qd qe qf))) ((((hb.setCell (p:=⟨bc,0,none⟩) aa (.bool q1)).setCell (p:=⟨bc,1,none⟩) aa (.slice qa qb qc)).setCell (p:=⟨bc,2,none⟩) aa (.bool q2)).setCell (p:=⟨bc,3,none⟩) aa (.slice qd qe qf)))
  clear kc hb aa
  go_wp2_with fail
  exact bodyPost_ret (v:=.agg #[.bool q1,.slice qa qb qc,.bool q2,.slice qd qe qf]) (by simp[results,Tryz.results105,go_sem,y0,y1,y2,y3]) rfl ⟨_,rfl,by rw[HQ.out]; exact HF.out.1,HF.out.2⟩
 ·have e2:(cmpQ s r<0)=False:=eq_false (fun h=>hq (cmpQ_lt.1 h))
  have HQ:=ZH (show mn r s=r by unfold mn; rw[if_neg hq])
  clear hq
  have HF:=ZH (ZN (ah.out.1.but (nodig4 kc) (But.set4 (b:=bc) w1 (.bool p1) (.slice pa pb pc) (.bool p2) (.slice pd pe pf))) ((((hb.setCell (p:=⟨bc,0,none⟩) aa (.bool p1)).setCell (p:=⟨bc,1,none⟩) aa (.slice pa pb pc)).setCell (p:=⟨bc,2,none⟩) aa (.bool p2)).setCell (p:=⟨bc,3,none⟩) aa (.slice pd pe pf)))
  clear kc hb aa
  go_wp2_with fail
  exact bodyPost_ret (v:=.agg #[.bool p1,.slice pa pb pc,.bool p2,.slice pd pe pf]) (by simp[results,Tryz.results105,go_sem,y0,y1,y2,y3]) rfl ⟨_,rfl,by rw[HQ.out]; exact HF.out.1,HF.out.2⟩
theorem pgreater_any {w:World} {va vb:Value} {r s:Rat} {k:Nat} (ha:RtIn w va r k) (hb:RtIn w vb s k) (hk:2≤k) (hk2:k≤400000):Calls Tryz.prog 106 #[va,vb] w fun e w'=>∃v',e=.returned v'∧RtIn w' v' (mx r s) k∧Below w.heap.size w w':=by
 obtain ⟨p1,pa,pb,pc,p2,pd,pe,pf,rfl⟩:=rt_shape ha
 obtain ⟨q1,qa,qb,qc,q2,qd,qe,qf,rfl⟩:=rt_shape hb
 obtain ⟨wa,b1,b2,bc,aj,ag,ai,af,ad,k0,k1,k2⟩:=new_three w #[.bool p1,.slice pa pb pc,.bool p2,.slice pd pe pf] #[.bool q1,.slice qa qb qc,.bool q2,.slice qd qe qf] #[.bool false,.slice none 0 0,.bool false,.slice none 0 0] 43 43 43
 have HW:=ZH (ZN aj (ZN ag (ZN ai af)))
 have ae:=ZH (ZN ad (show w.heap.size≤bc by omega))
 have HK:=ZH (ZN k0 (ZN k1 k2))
 have HR:=ZH (ZN (ha.below ad) (hb.below ad))
 obtain ⟨x0,x1,x2,x3⟩:=cells4 (ZR _ wa) k0
 obtain ⟨z0,z1,z2,z3⟩:=cells4 (ZR _ wa) k1
 clear ha hb aj ag ai af ad k0 k1 k2
 go_enter Tryz.func106,Tryz.ntmps106
 go_upto_region 1 with fail
 rw[←HW.out.1,←HW.out.2.2.2,←HW.out.2.2.1,←HW.out.2.1]
 clear HW
 go_wp2_with fail
 refine (ratCompare_any HR.out.2 HR.out.1 hk hk (by omega)).mono ?_
 rintro e w1 ⟨rfl,ac⟩
 clear x0 x1 x2 x3 z0 z1 z2 z3
 have ah:=ZH (ZN (HR.out.1.below ac) (HR.out.2.below ac))
 obtain ⟨x0,x1,x2,x3⟩:=cells4 ac HK.out.1
 obtain ⟨z0,z1,z2,z3⟩:=cells4 ac HK.out.2.1
 have kc:=(ac.block bc (ZL HK.out.2.2)).trans HK.out.2.2
 obtain ⟨y0,y1,y2,y3⟩:=cells4 (ZR _ w1) kc
 have g0:=ZF kc 0
 have g1:=ZF kc 1
 have g2:=ZF kc 2
 have g3:=ZF kc 3
 have hb:=ae.out.1.trans (ac.mono ae.out.1.size)
 have aa:=ae.out.2
 clear ac
 by_cases hq:r<s
 ·have e2:(0<cmpQ s r)=True:=eq_true (cmpQ_gt.2 hq)
  have HQ:=ZH (show mx r s=s by unfold mx; rw[if_pos hq])
  clear hq
  have HF:=ZH (ZN (ah.out.2.but (nodig4 kc) (But.set4 (b:=bc) w1 (.bool q1) (.slice qa qb qc) (.bool q2) (.slice qd qe qf))) ((((hb.setCell (p:=⟨bc,0,none⟩) aa (.bool q1)).setCell (p:=⟨bc,1,none⟩) aa (.slice qa qb qc)).setCell (p:=⟨bc,2,none⟩) aa (.bool q2)).setCell (p:=⟨bc,3,none⟩) aa (.slice qd qe qf)))
  clear kc hb aa
  go_wp2_with fail
  exact bodyPost_ret (v:=.agg #[.bool q1,.slice qa qb qc,.bool q2,.slice qd qe qf]) (by simp[results,Tryz.results106,go_sem,y0,y1,y2,y3]) rfl ⟨_,rfl,by rw[HQ.out]; exact HF.out.1,HF.out.2⟩
 ·have e2:(0<cmpQ s r)=False:=eq_false (fun h=>hq (cmpQ_gt.1 h))
  have HQ:=ZH (show mx r s=r by unfold mx; rw[if_neg hq])
  clear hq
  have HF:=ZH (ZN (ah.out.1.but (nodig4 kc) (But.set4 (b:=bc) w1 (.bool p1) (.slice pa pb pc) (.bool p2) (.slice pd pe pf))) ((((hb.setCell (p:=⟨bc,0,none⟩) aa (.bool p1)).setCell (p:=⟨bc,1,none⟩) aa (.slice pa pb pc)).setCell (p:=⟨bc,2,none⟩) aa (.bool p2)).setCell (p:=⟨bc,3,none⟩) aa (.slice pd pe pf)))
  clear kc hb aa
  go_wp2_with fail
  exact bodyPost_ret (v:=.agg #[.bool p1,.slice pa pb pc,.bool p2,.slice pd pe pf]) (by simp[results,Tryz.results106,go_sem,y0,y1,y2,y3]) rfl ⟨_,rfl,by rw[HQ.out]; exact HF.out.1,HF.out.2⟩
end Go.Proofs.YtdgimcmappmjdaaGreatDoor
