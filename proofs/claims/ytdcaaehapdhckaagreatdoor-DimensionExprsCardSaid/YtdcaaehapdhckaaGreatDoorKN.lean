/- A rational put into a box of one's own. -/
import Derived.Test.YtdcaaehapdhckaaGreatDoorKW
import Derived.Test.YtdcaaehapdhckaaGreatDoorKI
import Derived.Test.YtdcaaehapdhckaaGreatDoorKC
set_option linter.unusedSimpArgs false
set_option linter.unusedVariables false
set_option maxRecDepth 100000
namespace Go.Proofs.YtdcaaehapdhckaaGreatDoor
open Go.RowKit Go.Num Go.Flow
set_option maxHeartbeats 4000000

theorem free4 {w:World} {b:Nat} {cs:Array Value} {t:TypeId} (h:w.heap[b]?=some (.cells cs t (0,0))):w.frozen? ⟨b,0,none⟩=false∧w.frozen? ⟨b,1,none⟩=false∧w.frozen? ⟨b,2,none⟩=false∧w.frozen? ⟨b,3,none⟩=false:=⟨ZF h 0,ZF h 1,ZF h 2,ZF h 3⟩
structure Put (B:Nat) (w0:World) (b:Nat) (w w':World) (x0 x1 x2 x3:Value) (r:Rat) (K:Nat):Prop where
 block:w'.heap[b]?=some (.cells #[x0,x1,x2,x3] 47 (0,0))
 rt:RtIn w' (.agg #[x0,x1,x2,x3]) r K
 below:Below B w0 w'
 but:But b w w'
theorem rat_put {w0 w:World} {B b:Nat} {s1:Bool} {a1:Option Addr} {c1 l1:Nat} {s2:Bool} {a2:Option Addr} {c2 l2:Nat} (hk:w.heap[b]?=some (.cells #[.bool s1,.slice a1 c1 l1,.bool s2,.slice a2 c2 l2] 47 (0,0))) (hB:B≤b) (hb:Below B w0 w) {p1:Bool} {d1:Option Addr} {e1 m1:Nat} {p2:Bool} {d2:Option Addr} {e2 m2:Nat} {r:Rat} {K:Nat} (hr:RtIn w (.agg #[.bool p1,.slice d1 e1 m1,.bool p2,.slice d2 e2 m2]) r K) :
  Put B w0 b w ((((w.setCell ⟨b,0,none⟩ (.bool p1)).setCell ⟨b,1,none⟩ (.slice d1 e1 m1)).setCell ⟨b,2,none⟩ (.bool p2)).setCell ⟨b,3,none⟩ (.slice d2 e2 m2)) (.bool p1) (.slice d1 e1 m1) (.bool p2) (.slice d2 e2 m2) r K:=
 ⟨four_set hk _ _ _ _,hr.but (nodig4 hk) (But.set4 w _ _ _ _),(((hb.setCell (p:=⟨b,0,none⟩) hB _).setCell (p:=⟨b,1,none⟩) hB _).setCell (p:=⟨b,2,none⟩) hB _).setCell (p:=⟨b,3,none⟩) hB _,But.set4 w _ _ _ _⟩
structure Put2 (B:Nat) (w0:World) (bl bh:Nat) (w w':World) (x0 x1 x2 x3 y0 y1 y2 y3:Value) (r:Rat) (K:Nat) (s:Rat) (M:Nat):Prop where
 kl:w'.heap[bl]?=some (.cells #[x0,x1,x2,x3] 47 (0,0))
 kh:w'.heap[bh]?=some (.cells #[y0,y1,y2,y3] 47 (0,0))
 r1:RtIn w' (.agg #[x0,x1,x2,x3]) r K
 r2:RtIn w' (.agg #[y0,y1,y2,y3]) s M
 below:Below B w0 w'
 but:∀(b:Nat) (o:Obj),b≠bl→b≠bh→w.heap[b]?=some o→w'.heap[b]?=some o
theorem two_put {w0 w:World} {B bl bh:Nat} {s1:Bool} {a1:Option Addr} {c1 l1:Nat} {s2:Bool} {a2:Option Addr} {c2 l2:Nat} {t1:Bool} {b1:Option Addr} {d1 m1:Nat} {t2:Bool} {b2:Option Addr} {d2 m2:Nat}
  (hl:w.heap[bl]?=some (.cells #[.bool s1,.slice a1 c1 l1,.bool s2,.slice a2 c2 l2] 47 (0,0))) (hh:w.heap[bh]?=some (.cells #[.bool t1,.slice b1 d1 m1,.bool t2,.slice b2 d2 m2] 47 (0,0))) (hne:bl≠bh) (hBl:B≤bl) (hBh:B≤bh) (hb:Below B w0 w)
  {p1:Bool} {g1:Option Addr} {e1 n1:Nat} {p2:Bool} {g2:Option Addr} {e2 n2:Nat} {q1:Bool} {h1:Option Addr} {i1 k1:Nat} {q2:Bool} {h2:Option Addr} {i2 k2:Nat} {r s:Rat} {K M:Nat}
  (hr:RtIn w (.agg #[.bool p1,.slice g1 e1 n1,.bool p2,.slice g2 e2 n2]) r K) (hs:RtIn w (.agg #[.bool q1,.slice h1 i1 k1,.bool q2,.slice h2 i2 k2]) s M) :
  Put2 B w0 bl bh w ((((((((w.setCell ⟨bl,0,none⟩ (.bool p1)).setCell ⟨bl,1,none⟩ (.slice g1 e1 n1)).setCell ⟨bl,2,none⟩ (.bool p2)).setCell ⟨bl,3,none⟩ (.slice g2 e2 n2)).setCell ⟨bh,0,none⟩ (.bool q1)).setCell ⟨bh,1,none⟩ (.slice h1 i1 k1)).setCell ⟨bh,2,none⟩ (.bool q2)).setCell ⟨bh,3,none⟩ (.slice h2 i2 k2)) (.bool p1) (.slice g1 e1 n1) (.bool p2) (.slice g2 e2 n2) (.bool q1) (.slice h1 i1 k1) (.bool q2) (.slice h2 i2 k2) r K s M:=by
 have f:=rat_put hl hBl hb hr
 have fh:=(f.but.block bh hne.symm (ZL hh)).trans hh
 have hs':=hs.but (nodig4 hl) f.but
 have g:=rat_put fh hBh f.below hs'
 exact ⟨(g.but.block bl hne (ZL f.block)).trans f.block,g.block,f.rt.but (nodig4 fh) g.but,g.rt,g.below,fun b o h1 h2 h=>by
  have h3:=(f.but.block b h1 (ZL h)).trans h
  exact (g.but.block b h2 (ZL h3)).trans h3⟩
theorem Put2.drew {B:Nat} {w0:World} {bl bh:Nat} {w w':World} {x0 x1 x2 x3 y0 y1 y2 y3:Value} {r:Rat} {K:Nat} {s:Rat} {M:Nat} (h:Put2 B w0 bl bh w w' x0 x1 x2 x3 y0 y1 y2 y3 r K s M):Put2 B w0 bl bh w w'.drew x0 x1 x2 x3 y0 y1 y2 y3 r K s M:=by
 have hd:Below w'.heap.size w' w'.drew:=(ZR _ _).drew
 exact ⟨(hd.block bl (ZL h.kl)).trans h.kl,(hd.block bh (ZL h.kh)).trans h.kh,h.r1.below hd,h.r2.below hd,h.below.drew,fun b o h1 h2 k=>(hd.block b (ZL (h.but b o h1 h2 k))).trans (h.but b o h1 h2 k)⟩
end Go.Proofs.YtdcaaehapdhckaaGreatDoor
set_option maxRecDepth 100000
namespace Go.Proofs.YtdcaaehapdhckaaGreatDoor
open Go.RowKit Go.Num
set_option maxHeartbeats 4000000

theorem iAbs_any {w:World} {v:Value} {z:Int} {k:Nat} (h:IntIn w v z k):Calls Tryz.prog 105 #[v] w fun e w'=>∃v',e=.returned v'∧IntIn w' v' (z.natAbs:Int) k∧Below w.heap.size w w':=by
  obtain ⟨neg,ao,c,l,rfl,hm,hn,hs,rfl,hk,hc1,hc2⟩:=int_sign h
  have hp:=norm_pos hn
  obtain ⟨N,hN⟩:∃N,N=l.length:=⟨_,rfl⟩
  obtain ⟨wa,hwa⟩:∃wa,wa=(w.alloc (.cells #[.bool neg,.slice ao N c] 45)).alloc (.cells #[.bool false,.slice none 0 0] 45):=⟨_,rfl⟩
  obtain ⟨ba,hba⟩:∃ba,ba=w.heap.size:=⟨_,rfl⟩
  obtain ⟨bb,hbb⟩:∃bb,bb=w.heap.size+1:=⟨_,rfl⟩
  have hal:Below w.heap.size w wa:=by rw[hwa]; exact ((ZR _ w).alloc (Nat.le_refl _) _).alloc (by simp) _
  obtain ⟨k1,k2⟩:=two_made w #[.bool neg,.slice ao N c] #[.bool false,.slice none 0 0] 45 45
  rw[←hwa,←hba] at k1
  rw[←hwa,←hbb] at k2
  have x0:=ZI k1 0
  have x1:=ZI k1 1
  have y0:=ZI k2 0
  have y1:=ZI k2 1
  have f0:=ZF k2 0
  have f1:=ZF k2 1
  simp at x0 x1 y0 y1
  have hne:¬ba=bb:=by omega
  have hb2:∀a b:Value,Below w.heap.size w ((wa.setCell ⟨bb,0,none⟩ a).setCell ⟨bb,1,none⟩ b):=fun a b=>(hal.setCell (show w.heap.size≤bb by omega) a).setCell (show w.heap.size≤bb by omega) b
  have hfin:∀w',Below w.heap.size w w'→IntIn w' (.agg #[.bool false,.slice ao N c]) (((int neg l).natAbs:Nat):Int) k:=fun w' hw=>by
    have:=int_made (neg:=false) (b:=false) hm (Nat.le_refl _) (by rw[List.take_length]; exact hn) (by rw[List.take_length]) hw (by simp)
    rw[←hN] at this
    rw[show (((int neg l).natAbs:Nat):Int)=int false l by unfold int; cases neg<;>simp]
    exact this.more (by omega)
  have HFIN:=ZH hfin
  have HB2:=ZH hb2
  have HW:=ZH (ZN hwa (ZN hba hbb))
  rw[←hN] at hc1⊢
  clear h hm hn hs hp hN hal hk hfin hb2 k1 k2 hwa hba hbb
  go_enter Tryz.func105,Tryz.ntmps105
  go_upto_region 1 with fail
  rw[←HW.out.1,←HW.out.2.2,←HW.out.2.1]
  clear HW
  go_wp2_with fail
  exact bodyPost_ret (v:=.agg #[.bool false,.slice ao N c]) (by simp[results,Tryz.results105,go_sem,y0,y1]) rfl ⟨_,rfl,HFIN.out _ (HB2.out _ _),HB2.out _ _⟩
theorem rAbs_any {w:World} {v:Value} {p q:Int} {k:Nat} (h:RatIn w v p q k):Calls Tryz.prog 70 #[v] w fun e w'=>∃v',e=.returned v'∧RatIn w' v' (p.natAbs:Int) q k∧Below w.heap.size w w':=by
  obtain ⟨n1,m1,n2,m2,rfl,h1,h2,h3⟩:=h
  obtain ⟨s2,a2,c2,l2,e2,-⟩:=int_sign h2
  simp at e2
  obtain ⟨-,rfl⟩:=e2
  generalize l2.length=N2 at *
  obtain ⟨wa,hwa⟩:∃wa,wa=(w.alloc (.cells #[.bool n1,m1,.bool n2,.slice a2 N2 c2] 47)).alloc (.cells #[.bool false,.slice none 0 0,.bool false,.slice none 0 0] 47):=⟨_,rfl⟩
  obtain ⟨ba,hba⟩:∃ba,ba=w.heap.size:=⟨_,rfl⟩
  obtain ⟨bc,hbc⟩:∃bc,bc=w.heap.size+1:=⟨_,rfl⟩
  have hal:Below w.heap.size w wa:=by rw[hwa]; exact ((ZR _ w).alloc (Nat.le_refl _) _).alloc (by simp) _
  obtain ⟨k1,k2⟩:=two_made w #[.bool n1,m1,.bool n2,.slice a2 N2 c2] #[.bool false,.slice none 0 0,.bool false,.slice none 0 0] 47 47
  rw[←hwa,←hba] at k1
  rw[←hwa,←hbc] at k2
  have x0:=ZI k1 0
  have x1:=ZI k1 1
  have x2:=ZI k1 2
  have x3:=ZI k1 3
  have z0:=ZI k2 0
  have z1:=ZI k2 1
  have z2:=ZI k2 2
  have z3:=ZI k2 3
  have f0:=ZF k2 0
  have f1:=ZF k2 1
  have f2:=ZF k2 2
  have f3:=ZF k2 3
  simp at x0 x1 x2 x3 z0 z1 z2 z3
  have hsz:bc<wa.heap.size:=ZL k2
  have hge:w.heap.size≤bc:=by omega
  have n3:¬ba=bc:=by omega
  have n4:¬bc=ba:=by omega
  have H1:=ZH (ZN (h1.below hal) (ZN (h2.below hal) h3))
  have HAL:=ZH (ZN hal (ZN hge (ZN hsz k2)))
  have HW:=ZH (ZN hwa (ZN hba hbc))
  clear h1 h2 h3 hal k1 k2 hwa hba hbc hsz hge
  go_enter Tryz.func70,Tryz.ntmps70
  go_upto_region 1 with fail
  rw[←HW.out.1,←HW.out.2.2,←HW.out.2.1]
  clear HW
  go_region_held3 (fun w'=>w'.cell? ⟨ba,0,none⟩=some (.bool n1)∧w'.cell? ⟨ba,1,none⟩=some m1∧w'.cell? ⟨ba,2,none⟩=some (.bool n2)∧w'.cell? ⟨ba,3,none⟩=some (.slice a2 N2 c2)) (go_keep)
    (first
      | (go_at_call 105
         refine (iAbs_any (H1.out.1.below (ZR _ wa).drew)).mono ?_
         rintro e w3 ⟨v3,rfl,hi3,hb3⟩
         obtain ⟨s4,a4,c4,l4,rfl,-⟩:=int_sign hi3
         have x0:=ZJ hb3 x0
         have x1:=ZJ hb3 x1
         have x2:=ZJ hb3 x2
         have x3:=ZJ hb3 x3
         have z0:=ZJ hb3 z0
         have z1:=ZJ hb3 z1
         have z2:=ZJ hb3 z2
         have z3:=ZJ hb3 z3
         have f0:=frozen_below hb3 (p:=⟨bc,0,none⟩) HAL.out.2.2.1 f0
         have f1:=frozen_below hb3 (p:=⟨bc,1,none⟩) HAL.out.2.2.1 f1
         have f2:=frozen_below hb3 (p:=⟨bc,2,none⟩) HAL.out.2.2.1 f2
         have f3:=frozen_below hb3 (p:=⟨bc,3,none⟩) HAL.out.2.2.1 f3
         have H3:=ZH (ZN hi3 hb3)
         clear hi3 hb3))
  all_goals
    have hblk:=(H3.out.2.block bc HAL.out.2.2.1).trans HAL.out.2.2.2
    have hi:=H3.out.1.store4 hblk (.bool s4) (.slice a4 l4.length c4) (.bool n2) (.slice a2 N2 c2)
    have hj:=((H1.out.2.1.below (ZR _ wa).drew).below H3.out.2).store4 hblk (.bool s4) (.slice a4 l4.length c4) (.bool n2) (.slice a2 N2 c2)
    have hbf:Below w.heap.size w ((((w3.setCell ⟨bc,0,none⟩ (.bool s4)).setCell ⟨bc,1,none⟩ (.slice a4 l4.length c4)).setCell ⟨bc,2,none⟩ (.bool n2)).setCell ⟨bc,3,none⟩ (.slice a2 N2 c2)):=
      (((((HAL.out.1.drew).trans (H3.out.2.mono HAL.out.1.size)).setCell HAL.out.2.1 _).setCell HAL.out.2.1 _).setCell HAL.out.2.1 _).setCell HAL.out.2.1 _
    have HF:=ZH (ZN hi (ZN hj hbf))
    clear hblk hi hj hbf
    go_wp2_with fail
    exact bodyPost_ret (v:=.agg #[.bool s4,.slice a4 l4.length c4,.bool n2,.slice a2 N2 c2]) (by simp[results,Tryz.results70,go_sem,z0,z1,z2,z3]) rfl ⟨_,rfl,⟨_,_,_,_,rfl,HF.out.1,HF.out.2.1,H1.out.2.2⟩,HF.out.2.2⟩
open Go.Gx (ab)
theorem ratAbs_any {w:World} {v:Value} {r:Rat} {k:Nat} (h:RtIn w v r k):Calls Tryz.prog 70 #[v] w fun e w'=>∃v',e=.returned v'∧RtIn w' v' (ab r) k∧Below w.heap.size w w':=by
  obtain ⟨q,h1,h2⟩:=h
  have e:(ab r).num=(r.num.natAbs:Int)∧(ab r).den=r.den:=by
    unfold ab
    split
    · next h=>
      have hn:r.num<0:=by have:=Rat.num_nonneg (q:=r); grind
      exact ⟨by rw[Rat.neg_num]; omega,Rat.neg_den r⟩
    · next h=>
      have hn:¬r.num<0:=by have:=Rat.num_nonneg (q:=r); grind
      exact ⟨by omega,rfl⟩
  exact (rAbs_any h1).mono fun _ _ ⟨v,e1,h,hb⟩=>⟨v,e1,⟨q,by rw[e.1]; exact h,by rw[e.2]; exact h2⟩,hb⟩
end Go.Proofs.YtdcaaehapdhckaaGreatDoor
