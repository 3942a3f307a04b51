/- Rationals in memory; one, Sign. -/
import Derived.Test.YtdcaaehapdhckaaGreatDoorKA
import Derived.Test.YtdcaaehapdhckaaGreatDoorFlowM
import Derived.Test.YtdcaaehapdhckaaGreatDoorKB
set_option linter.unusedSimpArgs false
set_option linter.unusedVariables false
set_option maxRecDepth 100000
namespace Go.Proofs.YtdcaaehapdhckaaGreatDoor
open Go.RowKit Go.Num
set_option maxHeartbeats 2000000

def RatIn (w:World) (v:Value) (p q:Int) (k:Nat):Prop:=∃n1 m1 n2 m2,v=.agg #[.bool n1,m1,.bool n2,m2]∧IntIn w (.agg #[.bool n1,m1]) p k∧IntIn w (.agg #[.bool n2,m2]) q k∧0≤q
theorem RatIn.below {w w':World} {v:Value} {p q:Int} {k:Nat} (h:RatIn w v p q k) (hb:Below w.heap.size w w'):RatIn w' v p q k:=by
 obtain ⟨n1,m1,n2,m2,e,h1,h2,h3⟩:=h
 exact ⟨n1,m1,n2,m2,e,h1.below hb,h2.below hb,h3⟩
theorem RatIn.more {w:World} {v:Value} {p q:Int} {k m:Nat} (h:RatIn w v p q k) (hm:k≤m):RatIn w v p q m:=by
 obtain ⟨n1,m1,n2,m2,e,h1,h2,h3⟩:=h
 exact ⟨n1,m1,n2,m2,e,h1.more hm,h2.more hm,h3⟩
theorem one_any (w:World):Calls Tryz.prog 111 #[] w fun e w'=>∃v,e=.returned v∧IntIn w' v 1 2∧Below w.heap.size w w':=by
 obtain ⟨wa,hwa⟩:∃wa,wa=w.alloc (.cells #[.bool false,.slice none 0 0] 45):=⟨_,rfl⟩
 obtain ⟨ba,hba⟩:∃ba,ba=w.heap.size:=⟨_,rfl⟩
 have hal:Below w.heap.size w wa:=by rw[hwa]; exact (ZR _ w).alloc (Nat.le_refl _) _
 have hblk:wa.heap[ba]?=some (.cells #[.bool false,.slice none 0 0] 45 (0,0)):=by rw[hwa,hba]; exact ZW w _
 have hge:w.heap.size≤ba:=by omega
 have HAL:=ZH (ZN hal (ZN hge hblk))
 have HW:=ZH (ZN hwa hba)
 clear hal hblk hwa hba hge
 go_enter Tryz.func111,Tryz.ntmps111
 go_upto_region 1 with fail
 rw[←HW.out.1,←HW.out.2]
 clear HW
 go_wp2_with fail
 refine (From_any (w:=wa) (n:=1) (by omega) (by omega)).mono ?_
 rintro e w4 ⟨v4,rfl,hi4,hb4⟩
 obtain ⟨s4,a4,c4,l4,rfl,-⟩:=int_sign hi4
 have hblk:=(hb4.block ba (ZL HAL.out.2.2)).trans HAL.out.2.2
 have z0:=ZI hblk 0
 have z1:=ZI hblk 1
 have f0:=ZF hblk 0
 have f1:=ZF hblk 1
 simp at z0 z1
 have hi:=hi4.store hblk (.bool s4) (.slice a4 l4.length c4)
 have hbf:Below w.heap.size w ((w4.setCell ⟨ba,0,none⟩ (.bool s4)).setCell ⟨ba,1,none⟩ (.slice a4 l4.length c4)):=((HAL.out.1.trans (hb4.mono HAL.out.1.size)).setCell HAL.out.2.1 _).setCell HAL.out.2.1 _
 have HF:=ZH (ZN hi hbf)
 clear hblk hi hbf hi4 hb4
 go_wp2_with fail
 exact bodyPost_ret (v:=.agg #[.bool s4,.slice a4 l4.length c4]) (by simp[results,Tryz.results111,go_sem,z0,z1]) rfl ⟨_,rfl,HF.out⟩
theorem rSign_any {w:World} {v:Value} {p q:Int} {k:Nat} (h:RatIn w v p q k):Calls Tryz.prog 42 #[v] w fun e w'=>e=.returned (.int .i64 (cmpI p 0))∧Below w.heap.size w w':=by
 obtain ⟨n1,m1,n2,m2,rfl,h1,-,-⟩:=h
 obtain ⟨wa,hwa⟩:∃wa,wa=w.alloc (.cells #[.bool n1,m1,.bool n2,m2] 47):=⟨_,rfl⟩
 obtain ⟨ba,hba⟩:∃ba,ba=w.heap.size:=⟨_,rfl⟩
 have hal:Below w.heap.size w wa:=by rw[hwa]; exact (ZR _ w).alloc (Nat.le_refl _) _
 have hblk:wa.heap[ba]?=some (.cells #[.bool n1,m1,.bool n2,m2] 47 (0,0)):=by rw[hwa,hba]; exact ZW w _
 have x0:=ZI hblk 0
 have x1:=ZI hblk 1
 simp at x0 x1
 have HS:=ZH (Sign_any (h1.below hal))
 have HAL:=ZH hal
 have HW:=ZH (ZN hwa hba)
 clear hal hblk hwa hba h1
 go_enter Tryz.func42,Tryz.ntmps42
 go_upto_region 1 with fail
 rw[←HW.out.1,←HW.out.2]
 clear HW
 go_wp2_with fail
 refine HS.out.mono ?_
 rintro e w4 ⟨rfl,hb4⟩
 have HB:=ZH (HAL.out.trans (hb4.mono HAL.out.size))
 clear hb4
 go_wp2_with fail
 go_ret
 exact ⟨rfl,HB.out⟩
theorem MagIn.store4 {w:World} {bc:Nat} {t:TypeId} {v:Value} {l:List Nat} (h:MagIn w v l) (hb:w.heap[bc]?=some (.cells #[.bool false,.slice none 0 0,.bool false,.slice none 0 0] t (0,0))) (u0 u1 u2 u3:Value):MagIn ((((w.setCell ⟨bc,0,none⟩ u0).setCell ⟨bc,1,none⟩ u1).setCell ⟨bc,2,none⟩ u2).setCell ⟨bc,3,none⟩ u3) v l:=by
 obtain ⟨ao,c,e,h1,h2,h3,h4⟩:=h
 refine ⟨ao,c,e,h1,h2,h3,fun h0=>?_⟩
 obtain ⟨b,off,e2,hlt,hc⟩:=h4 h0
 have hne:b≠bc:=by
  rintro rfl
  have:=hc 0 h0
  rw[ZI hb] at this
  match off with
  | 0=>simp[u32V] at this
  | 1=>simp[u32V] at this
  | 2=>simp[u32V] at this
  | 3=>simp[u32V] at this
  | n+4=>simp at this
 refine ⟨b,off,e2,by simpa[World.setCell] using hlt,fun j hj=>?_⟩
 rw[←hc j hj]
 exact World.cell?_of_block (a:=⟨b,off+j,none⟩) ((Below.heap_setCell _ _ _ _ hne).trans ((Below.heap_setCell _ _ _ _ hne).trans ((Below.heap_setCell _ _ _ _ hne).trans (Below.heap_setCell _ _ _ _ hne))))
theorem IntIn.store4 {w:World} {bc:Nat} {t:TypeId} {v:Value} {z:Int} {k:Nat} (h:IntIn w v z k) (hb:w.heap[bc]?=some (.cells #[.bool false,.slice none 0 0,.bool false,.slice none 0 0] t (0,0))) (u0 u1 u2 u3:Value):IntIn ((((w.setCell ⟨bc,0,none⟩ u0).setCell ⟨bc,1,none⟩ u1).setCell ⟨bc,2,none⟩ u2).setCell ⟨bc,3,none⟩ u3) v z k:=by
 obtain ⟨neg,ms,l,e,h1,h2⟩:=h
 exact ⟨neg,ms,l,e,h1.store4 hb u0 u1 u2 u3,h2⟩
theorem int_nil (w:World) (k:Nat):IntIn w (.agg #[.bool false,.slice none 0 0]) 0 k:=⟨false,_,[],rfl,mag_nil w,norm_nil,fun _=>rfl,rfl,Nat.zero_le _⟩
theorem rFrom_any {w:World} {n:Int} (h0:-9223372036854775808≤n) (h1:n≤9223372036854775807):Calls Tryz.prog 35 #[.int .i64 n] w fun e w'=>∃v,e=.returned v∧RatIn w' v n 0 2∧Below w.heap.size w w':=by
 obtain ⟨wa,hwa⟩:∃wa,wa=w.alloc (.cells #[.bool false,.slice none 0 0,.bool false,.slice none 0 0] 47):=⟨_,rfl⟩
 obtain ⟨ba,hba⟩:∃ba,ba=w.heap.size:=⟨_,rfl⟩
 have hal:Below w.heap.size w wa:=by rw[hwa]; exact (ZR _ w).alloc (Nat.le_refl _) _
 have hblk:wa.heap[ba]?=some (.cells #[.bool false,.slice none 0 0,.bool false,.slice none 0 0] 47 (0,0)):=by rw[hwa,hba]; exact ZW w _
 have hge:w.heap.size≤ba:=by omega
 have HAL:=ZH (ZN hal (ZN hge hblk))
 have HW:=ZH (ZN hwa hba)
 have HF0:=ZH (From_any (w:=wa) h0 h1)
 clear hal hblk hwa hba hge h0 h1
 go_enter Tryz.func35,Tryz.ntmps35
 go_upto_region 1 with fail
 rw[←HW.out.1,←HW.out.2]
 clear HW
 go_wp2_with fail
 refine HF0.out.mono ?_
 rintro e w4 ⟨v4,rfl,hi4,hb4⟩
 obtain ⟨s4,a4,c4,l4,rfl,-⟩:=int_sign hi4
 have hblk:=(hb4.block ba (ZL HAL.out.2.2)).trans HAL.out.2.2
 have z0:=ZI hblk 0
 have z1:=ZI hblk 1
 have z2:=ZI hblk 2
 have z3:=ZI hblk 3
 have f0:=ZF hblk 0
 have f1:=ZF hblk 1
 have f2:=ZF hblk 2
 have f3:=ZF hblk 3
 simp at z0 z1 z2 z3
 have hi:=hi4.store4 hblk (.bool s4) (.slice a4 l4.length c4) (.bool false) (.slice none 0 0)
 have hbf:Below w.heap.size w ((((w4.setCell ⟨ba,0,none⟩ (.bool s4)).setCell ⟨ba,1,none⟩ (.slice a4 l4.length c4)).setCell ⟨ba,2,none⟩ (.bool false)).setCell ⟨ba,3,none⟩ (.slice none 0 0)):=
  ((((HAL.out.1.trans (hb4.mono HAL.out.1.size)).setCell HAL.out.2.1 _).setCell HAL.out.2.1 _).setCell HAL.out.2.1 _).setCell HAL.out.2.1 _
 have HF:=ZH (ZN hi hbf)
 clear hblk hi hbf hi4 hb4
 go_wp2_with fail
 exact bodyPost_ret (v:=.agg #[.bool s4,.slice a4 l4.length c4,.bool false,.slice none 0 0]) (by simp[results,Tryz.results35,go_sem,z0,z1,z2,z3]) rfl ⟨_,rfl,⟨_,_,_,_,rfl,HF.out.1,int_nil _ _,Int.le_refl _⟩,HF.out.2⟩
end Go.Proofs.YtdcaaehapdhckaaGreatDoor
set_option maxRecDepth 100000
namespace Go.Proofs.YtdcaaehapdhckaaGreatDoor
open List renaming setIfInBounds_toArray → zLa, set_cons_zero → zLb, set_cons_succ → zLc, take_succ_cons → zLd, take_zero → zLe
open Act renaming put → zAp
open Nat renaming zero_add → zNz
open Go.RowKit Go.Num Go.Flow
set_option maxHeartbeats 4000000

theorem cmp_zero {x y:Int}:(cmpI x y==0)=decide (x=y):=by
 unfold cmpI
 by_cases h1:x<y
 ·rw[if_pos h1,ZU (by omega)]
  rfl
 ·by_cases h2:y<x
  ·rw[if_neg h1,if_pos h2,ZU (by omega)]
   rfl
  ·rw[if_neg h1,if_neg h2,ZT (by omega)]
   rfl
def isWhole (q:Int):Bool:=decide (q=0∨q=1)
theorem whole_any {w:World} {v:Value} {p q:Int} {k:Nat} (h:RatIn w v p q k):Calls Tryz.prog 78 #[v] w fun e w'=>e=.returned (.bool (isWhole q))∧Below w.heap.size w w':=by
 obtain ⟨n1,m1,n2,m2,rfl,-,h2,hq⟩:=h
 obtain ⟨wa,hwa⟩:∃wa,wa=w.alloc (.cells #[.bool n1,m1,.bool n2,m2] 47):=⟨_,rfl⟩
 obtain ⟨ba,hba⟩:∃ba,ba=w.heap.size:=⟨_,rfl⟩
 have hal:Below w.heap.size w wa:=by rw[hwa]; exact (ZR _ w).alloc (Nat.le_refl _) _
 have hblk:wa.heap[ba]?=some (.cells #[.bool n1,m1,.bool n2,m2] 47 (0,0)):=by rw[hwa,hba]; exact ZW w _
 have x2:=ZI hblk 2
 have x3:=ZI hblk 3
 simp at x2 x3
 have HQ:=ZH (h2.below hal)
 have HX:=ZH (ZN x2 x3)
 have HAL:=ZH hal
 have HW:=ZH (ZN hwa hba)
 clear hal hblk hwa hba h2 x2 x3
 go_enter Tryz.func78,Tryz.ntmps78
 go_upto_region 1 with fail
 rw[←HW.out.1,←HW.out.2]
 clear HW
 refine wp_region_flow [0,1,2,3,4,5,6,7,8,9,10,11] 12 (fun i v w'=>match i with
   | 0=>v=.pointer (some ⟨ba,2,none⟩)
   | 1=>v=.agg #[.bool n2,m2]
   | 2=>v=.int .i64 (cmpI q 0)
   | 3=>v=.bool (decide (q=0))
   | 4=>v=.bool (decide (q=0))
   | 5=>q≠0→v=.pointer (some ⟨ba,2,none⟩)
   | 6=>q≠0→v=.agg #[.bool n2,m2]
   | 7=>q≠0→IntIn w' v 1 2
   | 8=>q≠0→v=.int .i64 (cmpI q 1)
   | 9=>q≠0→v=.bool (decide (q=1))
   | 10=>v=.bool (isWhole q)
   | _=>v=.bool (isWhole q)) rfl rfl (by kernel_rfl) (by kernel_rfl) ?st ?steps ?fin
 case st=>
  intro i v w1 w2 h hb
  match i with
  | 0 | 1 | 2 | 3 | 4 | 5 | 6 | 8 | 9 | 10 | _+11=>exact h
  | 7=>exact fun hq=>(h hq).below hb
 case steps=>
  refine Steps.cons (Step.of rfl ?s0) (Steps.cons (Step.of rfl ?s1) (Steps.cons (Step.of rfl ?s2) (Steps.cons (Step.of rfl ?s3) (Steps.cons (Step.of rfl ?s4) (Steps.cons (Step.of rfl ?s5) (Steps.cons (Step.of rfl ?s6) (Steps.cons (Step.of rfl ?s7) (Steps.cons (Step.of rfl ?s8) (Steps.cons (Step.of rfl ?s9) (Steps.cons (Step.of rfl ?s10) (Steps.cons (Step.of rfl ?s11) Steps.nil)))))))))))
  case s0=>
   intro xs w' hb hT K hK
   clear hT
   simp only[zLd,zLe,putAll,zAp,zLa,zLb,zLc,Nat.reduceAdd,zNz] at hK⊢
   have hw:Below wa.heap.size wa w':=((ZR _ wa).drew).trans hb
   go_simp
   exact hK _ _ (ZR _ _) rfl
  case s1=>
   intro xs w' hb hT K hK
   have h0:xs 0=.pointer (some ⟨ba,2,none⟩):=hT 0 (by kernel_rfl)
   clear hT
   simp only[zLd,zLe,putAll,zAp,zLa,zLb,zLc,Nat.reduceAdd,zNz] at hK⊢
   have hw:Below wa.heap.size wa w':=((ZR _ wa).drew).trans hb
   have x2:=ZJ hw HX.out.1
   have x3:=ZJ hw HX.out.2
   (try simp only[h0] at hK)
   go_simp
   exact hK _ _ (ZR _ _) rfl
  case s2=>
   intro xs w' hb hT K hK
   have h1:xs 1=.agg #[.bool n2,m2]:=hT 1 (by kernel_rfl)
   clear hT
   simp only[zLd,zLe,putAll,zAp,zLa,zLb,zLc,Nat.reduceAdd,zNz] at hK⊢
   have hw:Below wa.heap.size wa w':=((ZR _ wa).drew).trans hb
   (try simp only[h1] at hK)
   go_simp
   go_at_call 85
   refine (Sign_any (HQ.out.below hw)).mono ?_
   rintro e w3 ⟨rfl,hb3⟩
   exact hK _ _ hb3 rfl
  case s3=>
   intro xs w' hb hT K hK
   have h2:xs 2=.int .i64 (cmpI q 0):=hT 2 (by kernel_rfl)
   clear hT
   simp only[zLd,zLe,putAll,zAp,zLa,zLb,zLc,Nat.reduceAdd,zNz] at hK⊢
   have hw:Below wa.heap.size wa w':=((ZR _ wa).drew).trans hb
   (try simp only[h2] at hK)
   go_simp
   exact hK _ _ (ZR _ _) (by rw[cmp_zero])
  case s4=>
   intro xs w' hb hT K hK
   have h3:xs 3=.bool (decide (q=0)):=hT 3 (by kernel_rfl)
   clear hT
   simp only[zLd,zLe,putAll,zAp,zLa,zLb,zLc,Nat.reduceAdd,zNz] at hK⊢
   have hw:Below wa.heap.size wa w':=((ZR _ wa).drew).trans hb
   (try simp only[h3] at hK)
   go_simp
   exact hK _ _ (ZR _ _) rfl
  case s5=>
   intro xs w' hb hT K hK
   have h4:xs 4=.bool (decide (q=0)):=hT 4 (by kernel_rfl)
   clear hT
   simp only[zLd,zLe,putAll,zAp,zLa,zLb,zLc,Nat.reduceAdd,zNz] at hK⊢
   have hw:Below wa.heap.size wa w':=((ZR _ wa).drew).trans hb
   by_cases hz:q=0
   ·rw[ZT hz] at h4
    (try simp only[h4] at hK)
    go_simp
    exact hK _ _ (ZR _ _) (fun h=>absurd hz h)
   ·rw[ZU hz] at h4
    (try simp only[h4] at hK)
    go_simp
    exact hK _ _ (ZR _ _) (fun _=>rfl)
  case s6=>
   intro xs w' hb hT K hK
   have h4:xs 4=.bool (decide (q=0)):=hT 4 (by kernel_rfl)
   have h5:q≠0→xs 5=.pointer (some ⟨ba,2,none⟩):=hT 5 (by kernel_rfl)
   clear hT
   simp only[zLd,zLe,putAll,zAp,zLa,zLb,zLc,Nat.reduceAdd,zNz] at hK⊢
   have hw:Below wa.heap.size wa w':=((ZR _ wa).drew).trans hb
   by_cases hz:q=0
   ·rw[ZT hz] at h4
    (try simp only[h4] at hK); (try simp only[h5] at hK)
    go_simp
    exact hK _ _ (ZR _ _) (fun h=>absurd hz h)
   ·rw[ZU hz] at h4
    replace h5:=h5 hz
    have x2:=ZJ hw HX.out.1
    have x3:=ZJ hw HX.out.2
    (try simp only[h4] at hK); (try simp only[h5] at hK)
    go_simp
    exact hK _ _ (ZR _ _) (fun _=>rfl)
  case s7=>
   intro xs w' hb hT K hK
   have h4:xs 4=.bool (decide (q=0)):=hT 4 (by kernel_rfl)
   clear hT
   simp only[zLd,zLe,putAll,zAp,zLa,zLb,zLc,Nat.reduceAdd,zNz] at hK⊢
   have hw:Below wa.heap.size wa w':=((ZR _ wa).drew).trans hb
   by_cases hz:q=0
   ·rw[ZT hz] at h4
    (try simp only[h4] at hK)
    go_simp
    exact hK _ _ (ZR _ _) (fun h=>absurd hz h)
   ·rw[ZU hz] at h4
    (try simp only[h4] at hK)
    go_simp
    go_at_call 111
    refine (one_any _).mono ?_
    rintro e w3 ⟨v3,rfl,hi3,hb3⟩
    exact hK _ _ hb3 (fun _=>hi3)
  case s8=>
   intro xs w' hb hT K hK
   have h4:xs 4=.bool (decide (q=0)):=hT 4 (by kernel_rfl)
   have h6:q≠0→xs 6=.agg #[.bool n2,m2]:=hT 6 (by kernel_rfl)
   have h7:q≠0→IntIn w' (xs 7) 1 2:=hT 7 (by kernel_rfl)
   clear hT
   simp only[zLd,zLe,putAll,zAp,zLa,zLb,zLc,Nat.reduceAdd,zNz] at hK⊢
   have hw:Below wa.heap.size wa w':=((ZR _ wa).drew).trans hb
   by_cases hz:q=0
   ·rw[ZT hz] at h4
    (try simp only[h4] at hK); (try simp only[h6] at hK)
    go_simp
    exact hK _ _ (ZR _ _) (fun h=>absurd hz h)
   ·rw[ZU hz] at h4
    replace h6:=h6 hz
    replace h7:=h7 hz
    (try simp only[h4] at hK); (try simp only[h6] at hK)
    go_simp
    go_at_call 106
    refine (Compare_any (HQ.out.below hw) h7).mono ?_
    rintro e w3 ⟨rfl,hb3⟩
    exact hK _ _ hb3 (fun _=>rfl)
  case s9=>
   intro xs w' hb hT K hK
   have h4:xs 4=.bool (decide (q=0)):=hT 4 (by kernel_rfl)
   have h8:q≠0→xs 8=.int .i64 (cmpI q 1):=hT 8 (by kernel_rfl)
   clear hT
   simp only[zLd,zLe,putAll,zAp,zLa,zLb,zLc,Nat.reduceAdd,zNz] at hK⊢
   have hw:Below wa.heap.size wa w':=((ZR _ wa).drew).trans hb
   by_cases hz:q=0
   ·rw[ZT hz] at h4
    (try simp only[h4] at hK); (try simp only[h8] at hK)
    go_simp
    exact hK _ _ (ZR _ _) (fun h=>absurd hz h)
   ·rw[ZU hz] at h4
    replace h8:=h8 hz
    (try simp only[h4] at hK); (try simp only[h8] at hK)
    go_simp
    exact hK _ _ (ZR _ _) (fun _=>by rw[cmp_zero])
  case s10=>
   intro xs w' hb hT K hK
   have h4:xs 4=.bool (decide (q=0)):=hT 4 (by kernel_rfl)
   have h9:q≠0→xs 9=.bool (decide (q=1)):=hT 9 (by kernel_rfl)
   clear hT
   simp only[zLd,zLe,putAll,zAp,zLa,zLb,zLc,Nat.reduceAdd,zNz] at hK⊢
   have hw:Below wa.heap.size wa w':=((ZR _ wa).drew).trans hb
   by_cases hz:q=0
   ·rw[ZT hz] at h4
    (try simp only[h4] at hK); (try simp only[h9] at hK)
    go_simp
    exact hK _ _ (ZR _ _) (by simp[hz,isWhole])
   ·have h9:=h9 hz
    rw[ZU hz] at h4
    (try simp only[h4] at hK); (try simp only[h9] at hK)
    go_simp
    exact hK _ _ (ZR _ _) (by simp[hz,isWhole])
  case s11=>
   intro xs w' hb hT K hK
   have h10:xs 10=.bool (isWhole q):=hT 10 (by kernel_rfl)
   clear hT
   simp only[zLd,zLe,putAll,zAp,zLa,zLb,zLc,Nat.reduceAdd,zNz] at hK⊢
   have hw:Below wa.heap.size wa w':=((ZR _ wa).drew).trans hb
   (try simp only[h10] at hK)
   go_simp
   exact hK _ _ (ZR _ _) rfl
 case fin=>
  intro xs w' hb hT
  have hw:Below wa.heap.size wa w':=((ZR _ wa).drew).trans hb
  have h11:xs 11=.bool (isWhole q):=hT 11 (by omega)
  simp only[zLd,zLe,putAll,zAp,zLa,zLb,zLc,Nat.reduceAdd,zNz]
  refine wpAny_done (by kernel_rfl) ?_ _
  simp only[h11]
  clear hT h11
  go_wp2_with fail
  go_ret
  exact ⟨rfl,HAL.out.trans (hw.mono HAL.out.size)⟩
end Go.Proofs.YtdcaaehapdhckaaGreatDoor
set_option maxRecDepth 100000
namespace Go.Proofs.YtdcaaehapdhckaaGreatDoor
open Go.RowKit Go.Num
set_option maxHeartbeats 4000000

theorem rNeg_any {w:World} {v:Value} {p q:Int} {k:Nat} (h:RatIn w v p q k):Calls Tryz.prog 124 #[v] w fun e w'=>∃v',e=.returned v'∧RatIn w' v' (-p) q k∧Below w.heap.size w w':=by
  obtain ⟨n1,m1,n2,m2,rfl,h1,h2,h3⟩:=h
  obtain ⟨s2,a2,c2,l2,e2,-⟩:=int_sign h2
  simp at e2
  obtain ⟨-,rfl⟩:=e2
  generalize l2.length=N2 at *
  obtain ⟨wa,hwa⟩:∃wa,wa=(w.alloc (.cells #[.bool n1,m1,.bool n2,.slice a2 N2 c2] 47)).alloc (.cells #[.bool false,.slice none 0 0,.bool false,.slice none 0 0] 47):=⟨_,rfl⟩
  obtain ⟨ba,hba⟩:∃ba,ba=w.heap.size:=⟨_,rfl⟩
  obtain ⟨bc,hbc⟩:∃bc,bc=w.heap.size+1:=⟨_,rfl⟩
  have hal:Below w.heap.size w wa:=by rw[hwa]; exact ((ZR _ w).alloc (Nat.le_refl _) _).alloc (by simp) _
  obtain ⟨k1,k2⟩:=two_made w #[.bool n1,m1,.bool n2,.slice a2 N2 c2] #[.bool false,.slice none 0 0,.bool false,.slice none 0 0] 47 47
  rw[←hwa,←hba] at k1
  rw[←hwa,←hbc] at k2
  have x0:=ZI k1 0
  have x1:=ZI k1 1
  have x2:=ZI k1 2
  have x3:=ZI k1 3
  have z0:=ZI k2 0
  have z1:=ZI k2 1
  have z2:=ZI k2 2
  have z3:=ZI k2 3
  have f0:=ZF k2 0
  have f1:=ZF k2 1
  have f2:=ZF k2 2
  have f3:=ZF k2 3
  simp at x0 x1 x2 x3 z0 z1 z2 z3
  have hsz:bc<wa.heap.size:=ZL k2
  have hge:w.heap.size≤bc:=by omega
  have n3:¬ba=bc:=by omega
  have n4:¬bc=ba:=by omega
  have H1:=ZH (ZN (h1.below hal) (ZN (h2.below hal) h3))
  have HAL:=ZH (ZN hal (ZN hge (ZN hsz k2)))
  have HW:=ZH (ZN hwa (ZN hba hbc))
  clear h1 h2 h3 hal k1 k2 hwa hba hbc hsz hge
  go_enter Tryz.func124,Tryz.ntmps124
  go_upto_region 1 with fail
  rw[←HW.out.1,←HW.out.2.2,←HW.out.2.1]
  clear HW
  go_region_held3 (fun w'=>w'.cell? ⟨ba,0,none⟩=some (.bool n1)∧w'.cell? ⟨ba,1,none⟩=some m1∧w'.cell? ⟨ba,2,none⟩=some (.bool n2)∧w'.cell? ⟨ba,3,none⟩=some (.slice a2 N2 c2)) (go_keep)
    (first
      | (go_at_call 134
         refine (Neg_any (H1.out.1.below (ZR _ wa).drew)).mono ?_
         rintro e w3 ⟨v3,rfl,hi3,hb3⟩
         obtain ⟨s4,a4,c4,l4,rfl,-⟩:=int_sign hi3
         have x0:=ZJ hb3 x0
         have x1:=ZJ hb3 x1
         have x2:=ZJ hb3 x2
         have x3:=ZJ hb3 x3
         have z0:=ZJ hb3 z0
         have z1:=ZJ hb3 z1
         have z2:=ZJ hb3 z2
         have z3:=ZJ hb3 z3
         have f0:=frozen_below hb3 (p:=⟨bc,0,none⟩) HAL.out.2.2.1 f0
         have f1:=frozen_below hb3 (p:=⟨bc,1,none⟩) HAL.out.2.2.1 f1
         have f2:=frozen_below hb3 (p:=⟨bc,2,none⟩) HAL.out.2.2.1 f2
         have f3:=frozen_below hb3 (p:=⟨bc,3,none⟩) HAL.out.2.2.1 f3
         have H3:=ZH (ZN hi3 hb3)
         clear hi3 hb3))
  all_goals
    have hblk:=(H3.out.2.block bc HAL.out.2.2.1).trans HAL.out.2.2.2
    have hi:=H3.out.1.store4 hblk (.bool s4) (.slice a4 l4.length c4) (.bool n2) (.slice a2 N2 c2)
    have hj:=((H1.out.2.1.below (ZR _ wa).drew).below H3.out.2).store4 hblk (.bool s4) (.slice a4 l4.length c4) (.bool n2) (.slice a2 N2 c2)
    have hbf:Below w.heap.size w ((((w3.setCell ⟨bc,0,none⟩ (.bool s4)).setCell ⟨bc,1,none⟩ (.slice a4 l4.length c4)).setCell ⟨bc,2,none⟩ (.bool n2)).setCell ⟨bc,3,none⟩ (.slice a2 N2 c2)):=
      (((((HAL.out.1.drew).trans (H3.out.2.mono HAL.out.1.size)).setCell HAL.out.2.1 _).setCell HAL.out.2.1 _).setCell HAL.out.2.1 _).setCell HAL.out.2.1 _
    have HF:=ZH (ZN hi (ZN hj hbf))
    clear hblk hi hj hbf
    go_wp2_with fail
    exact bodyPost_ret (v:=.agg #[.bool s4,.slice a4 l4.length c4,.bool n2,.slice a2 N2 c2]) (by simp[results,Tryz.results124,go_sem,z0,z1,z2,z3]) rfl ⟨_,rfl,⟨_,_,_,_,rfl,HF.out.1,HF.out.2.1,H1.out.2.2⟩,HF.out.2.2⟩
end Go.Proofs.YtdcaaehapdhckaaGreatDoor
set_option maxRecDepth 100000
namespace Go.Proofs.YtdcaaehapdhckaaGreatDoor
open List renaming setIfInBounds_toArray → zLa, set_cons_zero → zLb, set_cons_succ → zLc, take_succ_cons → zLd, take_zero → zLe
open Act renaming put → zAp
open Nat renaming zero_add → zNz
open Go.RowKit Go.Num Go.Flow
set_option maxHeartbeats 4000000

def den (q:Int):Int:=if q=0 then 1 else q
def RtIn (w:World) (v:Value) (r:Rat) (k:Nat):Prop:=∃q,RatIn w v r.num q k∧den q=(r.den:Int)
theorem RtIn.below {w w':World} {v:Value} {r:Rat} {k:Nat} (h:RtIn w v r k) (hb:Below w.heap.size w w'):RtIn w' v r k:=by
 obtain ⟨q,h1,h2⟩:=h
 exact ⟨q,h1.below hb,h2⟩
theorem RtIn.more {w:World} {v:Value} {r:Rat} {k m:Nat} (h:RtIn w v r k) (hm:k≤m):RtIn w v r m:=by
 obtain ⟨q,h1,h2⟩:=h
 exact ⟨q,h1.more hm,h2⟩
def isInt (r:Rat):Bool:=r.den==1
theorem whole_den {q:Int} {r:Rat} (h:den q=(r.den:Int)):isWhole q=isInt r:=by
 unfold isWhole isInt den at *
 rw[Bool.eq_iff_iff,decide_eq_true_iff,beq_iff_eq]
 split at h
 ·next hq=>simp[hq]; omega
 ·next hq=>omega
theorem rwhole_any {w:World} {v:Value} {r:Rat} {k:Nat} (h:RtIn w v r k):Calls Tryz.prog 78 #[v] w fun e w'=>e=.returned (.bool (isInt r))∧Below w.heap.size w w':=by
 obtain ⟨q,h1,h2⟩:=h
 rw[←whole_den h2]
 exact whole_any h1
theorem ratSign_any {w:World} {v:Value} {r:Rat} {k:Nat} (h:RtIn w v r k):Calls Tryz.prog 42 #[v] w fun e w'=>e=.returned (.int .i64 (cmpI r.num 0))∧Below w.heap.size w w':=by
 obtain ⟨q,h1,h2⟩:=h
 exact rSign_any h1
theorem rt_int {w:World} {v:Value} {n:Int} {k:Nat} (h:RatIn w v n 0 k):RtIn w v (n:Rat) k:=⟨0,by simpa using h,by simp[den]⟩
theorem ratFrom_any {w:World} {n:Int} (h0:-9223372036854775808≤n) (h1:n≤9223372036854775807):Calls Tryz.prog 35 #[.int .i64 n] w fun e w'=>∃v,e=.returned v∧RtIn w' v (n:Rat) 2∧Below w.heap.size w w':=
 (rFrom_any h0 h1).mono fun _ _ ⟨v,e,h,hb⟩=>⟨v,e,rt_int h,hb⟩
theorem ratNeg_any {w:World} {v:Value} {r:Rat} {k:Nat} (h:RtIn w v r k):Calls Tryz.prog 124 #[v] w fun e w'=>∃v',e=.returned v'∧RtIn w' v' (-r) k∧Below w.heap.size w w':=by
 obtain ⟨q,h1,h2⟩:=h
 exact (rNeg_any h1).mono fun _ _ ⟨v,e,h,hb⟩=>⟨v,e,⟨q,by simpa using h,by simpa using h2⟩,hb⟩
theorem four_made (w:World) (o p q r:Array Value) (t u v x:TypeId):((((w.alloc (.cells o t)).alloc (.cells p u)).alloc (.cells q v)).alloc (.cells r x)).heap[w.heap.size]?=some (.cells o t (0,0))∧((((w.alloc (.cells o t)).alloc (.cells p u)).alloc (.cells q v)).alloc (.cells r x)).heap[w.heap.size+1]?=some (.cells p u (0,0))∧((((w.alloc (.cells o t)).alloc (.cells p u)).alloc (.cells q v)).alloc (.cells r x)).heap[w.heap.size+2]?=some (.cells q v (0,0))∧((((w.alloc (.cells o t)).alloc (.cells p u)).alloc (.cells q v)).alloc (.cells r x)).heap[w.heap.size+3]?=some (.cells r x (0,0)):=by
 have h:=ZW (((w.alloc (.cells o t)).alloc (.cells p u)).alloc (.cells q v)) (.cells r x)
 have e:(((w.alloc (.cells o t)).alloc (.cells p u)).alloc (.cells q v)).heap.size=w.heap.size+3:=by simp
 rw[e] at h
 obtain ⟨h1,h2,h3⟩:=three_made w o p q t u v
 exact ⟨(Below.heap_alloc _ _ _ (by rw[e]; omega)).trans h1,(Below.heap_alloc _ _ _ (by rw[e]; omega)).trans h2,(Below.heap_alloc _ _ _ (by rw[e]; omega)).trans h3,h⟩
theorem Den_any {w:World} {v:Value} {r:Rat} {k:Nat} (h:RtIn w v r k) (hk:2≤k):Calls Tryz.prog 102 #[v] w fun e w'=>∃v',e=.returned v'∧IntIn w' v' r.den k∧Below w.heap.size w w':=by
 obtain ⟨q,⟨na1,ma1,na2,ma2,rfl,hn,hd,hq⟩,hqd⟩:=h
 obtain ⟨wa,hwa⟩:∃wa,wa=(w.alloc (.cells #[.bool na1,ma1,.bool na2,ma2] 47)).alloc (.cells #[.bool false,.slice none 0 0] 45):=⟨_,rfl⟩
 obtain ⟨ba,hba⟩:∃b,b=w.heap.size:=⟨_,rfl⟩
 obtain ⟨bc,hbc⟩:∃b,b=w.heap.size+1:=⟨_,rfl⟩
 have hal:Below w.heap.size w wa:=by rw[hwa]; exact ((ZR _ w).alloc (Nat.le_refl _) _).alloc (by simp) _
 obtain ⟨k0,k1⟩:=two_made w #[.bool na1,ma1,.bool na2,ma2] #[.bool false,.slice none 0 0] 47 45
 rw[←hwa,←hba] at k0
 rw[←hwa,←hbc] at k1
 have HBba:=ZH k0
 have HBbc:=ZH k1
 have HAL:=ZH hal
 have HW0:=ZH (ZR wa.heap.size wa)
 have HW:=ZH (ZN hwa (ZN hba hbc))
 have HGbc:=ZH (show w.heap.size≤bc by omega)
 have HDa:=ZH (hd.below hal)
 have HNE:=ZH (show ba+1=bc by omega)
 clear hn hd hq
 clear hal hwa hba hbc k0 k1
 go_enter Tryz.func102,Tryz.ntmps102
 go_upto_region 1 with fail
 rw[←HW.out.1,←HW.out.2.2,←HW.out.2.1]
 clear HW
 refine wp_region_seq [0,1,2,3] 4 (fun i v w'=>match i with
  | 0=>v=.pointer (some ⟨ba,2,none⟩)
  | 1=>v=.agg #[.bool na2,ma2]
  | 2=>v=.int .i64 (cmpI q 0)
  | _=>v=.bool (decide (q=0))) rfl rfl (by kernel_rfl) (by kernel_rfl) ?st ?steps ?fin
 case st=>
  intro i v w1 w2 h hb
  match i with
  | 0 | 1 | 2 | _+3=>exact h
 case steps=>
  refine Steps.cons (Step.of rfl ?s0) (Steps.cons (Step.of rfl ?s1) (Steps.cons (Step.of rfl ?s2) (Steps.cons (Step.of rfl ?s3) Steps.nil)))
  case s0=>
   intro xs w' hb hT K hK
   clear hT
   simp only[zLd,zLe,putAll,zAp,zLa,zLb,zLc,Nat.reduceAdd,zNz] at hK⊢
   have hw:=Flow.hwP HW0.out hb
   go_simp
   exact hK _ _ (ZR _ _) rfl
  case s1=>
   intro xs w' hb hT K hK
   have h0:(xs 0)=.pointer (some ⟨ba,2,none⟩):=hT 0 (by kernel_rfl)
   clear hT
   simp only[zLd,zLe,putAll,zAp,zLa,zLb,zLc,Nat.reduceAdd,zNz] at hK⊢
   have hw:=Flow.hwP HW0.out hb
   have kb:=(hw.block ba (ZL HBba.out)).trans HBba.out
   have y0:=ZI kb 2
   have y1:=ZI kb 3
   clear kb
   simp at y0 y1
   (try simp only[h0] at hK)
   go_simp
   exact hK _ _ (ZR _ _) rfl
  case s2=>
   intro xs w' hb hT K hK
   have h1:(xs 1)=.agg #[.bool na2,ma2]:=hT 1 (by kernel_rfl)
   clear hT
   simp only[zLd,zLe,putAll,zAp,zLa,zLb,zLc,Nat.reduceAdd,zNz] at hK⊢
   have hw:=Flow.hwP HW0.out hb
   (try simp only[h1] at hK)
   go_simp
   go_at_call 85
   refine (Sign_any (HDa.out.below hw)).mono ?_
   rintro e w3 ⟨rfl,hb3⟩
   exact hK _ _ hb3 rfl
  case s3=>
   intro xs w' hb hT K hK
   have h2:(xs 2)=.int .i64 (cmpI q 0):=hT 2 (by kernel_rfl)
   clear hT
   simp only[zLd,zLe,putAll,zAp,zLa,zLb,zLc,Nat.reduceAdd,zNz] at hK⊢
   have hw:=Flow.hwP HW0.out hb
   (try simp only[h2] at hK)
   go_simp
   exact hK _ _ (ZR _ _) (by rw[cmp_zero])
 case fin=>
  intro xs w' hb hT
  have hw:=Flow.hwP HW0.out hb
  have h3:(xs 3)=.bool (decide (q=0)):=hT 3 (by omega)
  clear hT
  simp only[zLd,zLe,putAll,zAp,zLa,zLb,zLc,Nat.reduceAdd,zNz,List.drop_succ_cons,List.drop_zero]
  by_cases hz:q=0
  ·rw[ZT hz] at h3
   simp only[h3]
   clear h3 hb
   refine wpList_nil ?_
   go_wp2_with fail
   refine (one_any _).mono ?_
   rintro e w5 ⟨v5,rfl,hi5,hb5⟩
   obtain ⟨s4,a4,c4,l4,rfl,-⟩:=int_sign hi5
   have hw5:=hw.trans (hb5.mono hw.size)
   have HI:=ZH hi5
   have HE:(1:Int)=(r.den:Int):=by rw[←hqd,den,if_pos hz]
   have HE:=ZH HE
   clear hb5 hi5 hw hqd hz
   have kc:=(hw5.block bc (ZL HBbc.out)).trans HBbc.out
   have z0:=ZI kc 0
   have z1:=ZI kc 1
   have f0:=ZF kc 0
   have f1:=ZF kc 1
   simp at z0 z1
   have hi:=HI.out.store kc (.bool s4) (.slice a4 l4.length c4)
   have hbf:Below w.heap.size w ((w5.setCell ⟨bc,0,none⟩ (.bool s4)).setCell ⟨bc,1,none⟩ (.slice a4 l4.length c4)):=((HAL.out.trans (hw5.mono HAL.out.size)).setCell HGbc.out _).setCell HGbc.out _
   have HF:=ZH (ZN hi hbf)
   clear hi hbf kc hw5
   go_wp2_with fail
   exact bodyPost_ret (v:=.agg #[.bool s4,.slice a4 l4.length c4]) (by simp[results,Tryz.results102,go_sem,z0,z1]) rfl ⟨_,rfl,by rw[←HE.out]; exact HF.out.1.more hk,HF.out.2⟩
  ·rw[ZU hz] at h3
   simp only[h3]
   clear h3 hb
   refine wpList_nil ?_
   have HE:=ZH (show q=(r.den:Int) by rw[←hqd,den,if_neg hz])
   have HI:=ZH (HDa.out.below hw)
   obtain ⟨s4,a4,c4,l4,e4,-⟩:=int_sign HI.out
   simp at e4
   obtain ⟨rfl,rfl⟩:=e4
   have hw5:=hw
   have ka:=(hw.block ba (ZL HBba.out)).trans HBba.out
   have x2:=ZI ka 2
   have x3:=ZI ka 3
   simp at x2 x3
   have n1:¬ba=bc:=by have:=HNE.out; omega
   have n2:¬bc=ba:=by have:=HNE.out; omega
   clear hqd hz hw ka
   have kc:=(hw5.block bc (ZL HBbc.out)).trans HBbc.out
   have z0:=ZI kc 0
   have z1:=ZI kc 1
   have f0:=ZF kc 0
   have f1:=ZF kc 1
   simp at z0 z1
   have hi:=HI.out.store kc (.bool na2) (.slice a4 l4.length c4)
   have hbf:Below w.heap.size w ((w'.setCell ⟨bc,0,none⟩ (.bool na2)).setCell ⟨bc,1,none⟩ (.slice a4 l4.length c4)):=((HAL.out.trans (hw5.mono HAL.out.size)).setCell HGbc.out _).setCell HGbc.out _
   have HF:=ZH (ZN hi hbf)
   clear hi hbf kc hw5
   go_wp2_with fail
   exact bodyPost_ret (v:=.agg #[.bool na2,.slice a4 l4.length c4]) (by simp[results,Tryz.results102,go_sem,z0,z1]) rfl ⟨_,rfl,by rw[←HE.out]; exact HF.out.1,HF.out.2⟩
set_option maxHeartbeats 8000000
theorem pair_block {w:World} {b:Nat} {t:TypeId} {c0 c1:Value} (h:w.heap[b]?=some (.cells #[c0,c1] t (0,0))) (u0 u1:Value):((w.setCell ⟨b,0,none⟩ u0).setCell ⟨b,1,none⟩ u1).heap[b]?=some (.cells #[u0,u1] t (0,0)):=by
 have h1:=heap_setCell_same w b 0 _ _ u0 h
 have h2:=heap_setCell_same _ b 1 _ _ u1 h1
 exact h2
theorem pair_other {w:World} {b c:Nat} (h:c≠b) (u0 u1:Value):((w.setCell ⟨b,0,none⟩ u0).setCell ⟨b,1,none⟩ u1).heap[c]?=w.heap[c]?:=(Below.heap_setCell _ _ _ _ h).trans (Below.heap_setCell _ _ _ _ h)
theorem MagIn.pair {w:World} {b:Nat} {t:TypeId} {v:Value} {l:List Nat} {s:Bool} {a:Option Addr} {n c:Nat} (h:MagIn w v l) (hb:w.heap[b]?=some (.cells #[.bool s,.slice a n c] t (0,0))) (u0 u1:Value):MagIn ((w.setCell ⟨b,0,none⟩ u0).setCell ⟨b,1,none⟩ u1) v l:=by
 obtain ⟨ao,c',e,h1,h2,h3,h4⟩:=h
 refine ⟨ao,c',e,h1,h2,h3,fun h0=>?_⟩
 obtain ⟨b',off,e2,hlt,hc⟩:=h4 h0
 have hne:b'≠b:=by
  rintro rfl
  have:=hc 0 h0
  rw[ZI hb] at this
  match off with
  | 0=>simp[u32V] at this
  | 1=>simp[u32V] at this
  | n+2=>simp at this
 refine ⟨b',off,e2,by simpa[World.setCell] using hlt,fun j hj=>?_⟩
 rw[←hc j hj]
 exact World.cell?_of_block (a:=⟨b',off+j,none⟩) (pair_other hne u0 u1)
theorem IntIn.pair {w:World} {b:Nat} {t:TypeId} {v:Value} {z:Int} {k:Nat} {s:Bool} {a:Option Addr} {n c:Nat} (h:IntIn w v z k) (hb:w.heap[b]?=some (.cells #[.bool s,.slice a n c] t (0,0))) (u0 u1:Value):IntIn ((w.setCell ⟨b,0,none⟩ u0).setCell ⟨b,1,none⟩ u1) v z k:=by
 obtain ⟨neg,ms,l,e,h1,h2⟩:=h
 exact ⟨neg,ms,l,e,h1.pair hb u0 u1,h2⟩
theorem int_quot {na:Bool} {q y:Int} {la lb lq:List Nat} (hy:0<y) (hb:y=int false lb) (hx:int na la=q*y) (h:val la=val lb*val lq):int na lq=q:=by
 have e:int na lq*y=q*y:=by
  rw[←hx,hb]
  unfold int
  rw[h,Int.natCast_mul]
  cases na<;>simp[Int.mul_neg,Int.mul_comm]
 exact Int.eq_of_mul_eq_mul_right (by omega) e
theorem DivMod_any {w:World} {va vb:Value} {x y q:Int} {k:Nat} (ha:IntIn w va x k) (hb:IntIn w vb y k) (hy:0<y) (hx:x=q*y) (hk:k≤900000):Calls Tryz.prog 135 #[va,vb] w fun e w'=>∃v r,e=.returned (.tuple #[v,r,.int .i64 0])∧IntIn w' v q k∧IntIn w' r 0 k∧Below w.heap.size w w':=by
 obtain ⟨na,ao,ca,la,rfl,hma,hna,hsa,hxa,hka,hc1,hc2⟩:=int_sign ha
 obtain ⟨nb,bo,cb,lb,rfl,hmb,hnb,hsb,hyb,hkb,hc3,hc4⟩:=int_sign hb
 obtain rfl:nb=false:=by
  cases nb with
  | false=>rfl
  | true=>unfold int at hyb; simp at hyb; omega
 have hbv:val lb≠0:=by intro h; rw[int_zero h] at hyb; omega
 obtain ⟨NA,hNA⟩:∃N,N=la.length:=⟨_,rfl⟩
 obtain ⟨NB,hNB⟩:∃N,N=lb.length:=⟨_,rfl⟩
 rw[←hNA,←hNB]
 obtain ⟨wa,hwa⟩:∃wa,wa=(((w.alloc (.cells #[.bool na,.slice ao NA ca] 45)).alloc (.cells #[.bool false,.slice bo NB cb] 45)).alloc (.cells #[.bool false,.slice none 0 0] 45)).alloc (.cells #[.bool false,.slice none 0 0] 45):=⟨_,rfl⟩
 obtain ⟨ba,hba⟩:∃b,b=w.heap.size:=⟨_,rfl⟩
 obtain ⟨bb,hbb⟩:∃b,b=w.heap.size+1:=⟨_,rfl⟩
 obtain ⟨bc,hbc⟩:∃b,b=w.heap.size+2:=⟨_,rfl⟩
 obtain ⟨bd,hbd⟩:∃b,b=w.heap.size+3:=⟨_,rfl⟩
 have hal:Below w.heap.size w wa:=by rw[hwa]; exact ((((ZR _ w).alloc (Nat.le_refl _) _).alloc (by simp) _).alloc (by simp; omega) _).alloc (by simp; omega) _
 obtain ⟨k0,k1,k2,k3⟩:=four_made w #[.bool na,.slice ao NA ca] #[.bool false,.slice bo NB cb] #[.bool false,.slice none 0 0] #[.bool false,.slice none 0 0] 45 45 45 45
 rw[←hwa,←hba] at k0
 rw[←hwa,←hbb] at k1
 rw[←hwa,←hbc] at k2
 rw[←hwa,←hbd] at k3
 have HBba:=ZH k0
 have HBbb:=ZH k1
 have HBbc:=ZH k2
 have HBbd:=ZH k3
 have HAL:=ZH hal
 have HW0:=ZH (ZR wa.heap.size wa)
 have HW:=ZH (ZN hwa (ZN hba (ZN hbb (ZN hbc hbd))))
 have HGbc:=ZH (show w.heap.size≤bc by omega)
 have HGbd:=ZH (show w.heap.size≤bd by omega)
 have HIa:=ZH (show IntIn wa (.agg #[.bool na,.slice ao NA ca]) x k by rw[hNA]; exact ha.below hal)
 have HIb:=ZH (show IntIn wa (.agg #[.bool false,.slice bo NB cb]) y k by rw[hNB]; exact hb.below hal)
 have HM:=ZH (show MagIn wa (.slice ao NA ca) la∧MagIn wa (.slice bo NB cb) lb∧Norm la∧Norm lb∧val lb≠0∧la.length≤k∧(la = []→na=false) by rw[hNA,hNB]; exact ⟨hma.below hal,hmb.below hal,hna,hnb,hbv,hka,hsa⟩)
 have HQ:=ZH (show ∀lq,val la=val lb*val lq→int na lq=q from fun lq h=>int_quot hy hyb (hxa.symm.trans hx) h)
 have HY:=ZH (show cmpI y 0=1 from cmp_pos hy)
 have HDVD:=ZH (show val lb ∣ val la from by
  have h1:(x.natAbs)=q.natAbs*y.natAbs:=by rw[hx,Int.natAbs_mul]
  rw[hxa,hyb,int_abs,int_abs] at h1
  exact ⟨q.natAbs,by rw[h1,Nat.mul_comm]⟩)
 have hcd:bc+1=bd:=by omega
 have hab:ba+2=bc:=by omega
 have hbb:bb+1=bc:=by omega
 have HNE:=ZH (ZN hcd (ZN hab hbb))
 rw[←hNA] at hc1
 rw[←hNB] at hc3
 clear ha hb hma hmb hna hnb hsa hsb hxa hyb hka hkb hNA hNB hbv hy hx hcd hab hbb
 clear hal hwa hba hbb hbc hbd k0 k1 k2 k3
 go_enter Tryz.func135,Tryz.ntmps135
 go_upto_region 1 with fail
 rw[←HW.out.1,←HW.out.2.2.2.2,←HW.out.2.2.2.1,←HW.out.2.2.1,←HW.out.2.1]
 clear HW
 refine wp_region_seq [0,1,2] 3 (fun i v w'=>match i with
  | 0=>v=.agg #[.bool false,.slice bo NB cb]
  | 1=>v=.int .i64 (cmpI y 0)
  | _=>v=.bool false) rfl rfl (by kernel_rfl) (by kernel_rfl) ?st ?steps ?fin
 case st=>
  intro i v w1 w2 h hb
  match i with
  | 0 | 1 | _+2=>exact h
 case steps=>
  refine Steps.cons (Step.of rfl ?s0) (Steps.cons (Step.of rfl ?s1) (Steps.cons (Step.of rfl ?s2) Steps.nil))
  case s0=>
   intro xs w' hb hT K hK
   clear hT
   simp only[zLd,zLe,putAll,zAp,zLa,zLb,zLc,Nat.reduceAdd,zNz] at hK⊢
   have hw:=Flow.hwP HW0.out hb
   have kb:=(hw.block bb (ZL HBbb.out)).trans HBbb.out
   have y0:=ZI kb 0
   have y1:=ZI kb 1
   clear kb
   simp at y0 y1
   go_simp
   exact hK _ _ (ZR _ _) rfl
  case s1=>
   intro xs w' hb hT K hK
   have h0:(xs 0)=.agg #[.bool false,.slice bo NB cb]:=hT 0 (by kernel_rfl)
   clear hT
   simp only[zLd,zLe,putAll,zAp,zLa,zLb,zLc,Nat.reduceAdd,zNz] at hK⊢
   have hw:=Flow.hwP HW0.out hb
   (try simp only[h0] at hK)
   go_simp
   go_at_call 85
   refine (Sign_any (HIb.out.below hw)).mono ?_
   rintro e w3 ⟨rfl,hb3⟩
   exact hK _ _ hb3 rfl
  case s2=>
   intro xs w' hb hT K hK
   have h1:(xs 1)=.int .i64 (cmpI y 0):=hT 1 (by kernel_rfl)
   clear hT
   simp only[zLd,zLe,putAll,zAp,zLa,zLb,zLc,Nat.reduceAdd,zNz] at hK⊢
   have hw:=Flow.hwP HW0.out hb
   (try simp only[h1] at hK)
   go_simp
   exact hK _ _ (ZR _ _) (by rw[HY.out]; rfl)
 case fin=>
  intro xs w' hb hT
  have hw:=Flow.hwP HW0.out hb
  have h2:(xs 2)=.bool false:=hT 2 (by omega)
  clear hT
  simp only[zLd,zLe,putAll,zAp,zLa,zLb,zLc,Nat.reduceAdd,zNz,List.drop_succ_cons,List.drop_zero]
  simp only[h2]
  clear h2 hb
  refine wpList_nil ?_
  obtain ⟨w1,hw1⟩:∃w1,w1=w':=⟨_,rfl⟩
  rw[←hw1] at hw⊢
  clear hw1
  have H1:=ZH hw
  clear hw
  have x1:=ZI ((H1.out.block ba (ZL HBba.out)).trans HBba.out) 1
  have y1:=ZI ((H1.out.block bb (ZL HBbb.out)).trans HBbb.out) 1
  simp at x1 y1
  go_upto_region 3 with fail
  go_wp2_with fail
  refine (divide_any (HM.out.1.below H1.out) (HM.out.2.1.below H1.out) HM.out.2.2.1 HM.out.2.2.2.1 HM.out.2.2.2.2.1 (by have:=HM.out.2.2.2.2.2.1; omega)).mono ?_
  rintro e w2 ⟨qv,rv,lq,lr,rfl,hq1,hq2,hr1,hr2,hv,hlt,hb2⟩
  have hr0:val lr=0:=by
   obtain ⟨m,hm⟩:=HDVD.out
   rw[hm] at hv
   have h1:val lr=(val lb*val lq+val lr)%val lb:=by rw[Nat.mul_add_mod,Nat.mod_eq_of_lt hlt]
   rw[h1,←hv,Nat.mul_mod_right]
  have hlr:lr = []:=(norm_pos hr2).1 hr0
  subst hlr
  rw[hr0,Nat.add_zero] at hv
  have hqq:=HQ.out lq hv
  have hqk:lq.length≤k:=by
   have h1:=val_lt HM.out.1.choose_spec.choose_spec.2.2.2.1
   have h2:val lq≤val la:=by rw[hv]; exact Nat.le_mul_of_pos_left _ (Nat.pos_of_ne_zero HM.out.2.2.2.2.1)
   have h3:=norm_length hq2 (Nat.lt_of_le_of_lt h2 h1)
   have h4:=HM.out.2.2.2.2.2.1
   omega
  obtain ⟨aq,cq,rfl,hcq1,hcq2⟩:=mag_len hq1
  obtain ⟨ar,cr,rfl,-⟩:=mag_len hr1
  obtain ⟨NQ,hNQ⟩:∃N,N=lq.length:=⟨_,rfl⟩
  rw[←hNQ] at hq1 hcq1⊢
  have H2:=ZH (show MagIn w2 (.slice aq NQ cq) lq∧MagIn w2 (.slice ar ([]:List Nat).length cr) []∧int na lq=q∧lq.length≤k from ⟨hq1,hr1,hqq,hqk⟩)
  have HW2:=ZH (H1.out.trans (hb2.mono H1.out.size))
  clear hq1 hq2 hr1 hr2 hv hlt hr0 hqq hqk hb2 x1 y1 hNQ
  go_upto_region 4 with fail
  refine wp_region_flow [0,1,2,3,4,5,6,7,8,9,10] 11 (fun i v w'=>match i with
   | 0=>v=.pointer (some ⟨ba,0,none⟩)
   | 1=>v=.bool na
   | 2=>v=.pointer (some ⟨bb,0,none⟩)
   | 3=>v=.bool false
   | 4=>v=.bool na
   | 5=>v=.slice aq NQ cq
   | 6=>IntIn w' v q k
   | 7=>v=.pointer (some ⟨ba,0,none⟩)
   | 8=>v=.bool na
   | 9=>v=.slice ar 0 cr
   | _=>IntIn w' v 0 k) rfl rfl (by kernel_rfl) (by kernel_rfl) ?st ?steps ?fin
  case st=>
   intro i v w1 w2 h hb
   match i with
   | 0 | 1 | 2 | 3 | 4 | 5 | 7 | 8 | 9=>exact h
   | 6=>exact (show IntIn w1 v q k from h).below hb
   | _+10=>exact (show IntIn w1 v 0 k from h).below hb
  case steps=>
   refine Steps.cons (Step.of rfl ?s0) (Steps.cons (Step.of rfl ?s1) (Steps.cons (Step.of rfl ?s2) (Steps.cons (Step.of rfl ?s3) (Steps.cons (Step.of rfl ?s4) (Steps.cons (Step.of rfl ?s5) (Steps.cons (Step.of rfl ?s6) (Steps.cons (Step.of rfl ?s7) (Steps.cons (Step.of rfl ?s8) (Steps.cons (Step.of rfl ?s9) (Steps.cons (Step.of rfl ?s10) Steps.nil))))))))))
   case s0 | s2 | s5 | s7 | s9=>
    intro xs w' hb hT K hK
    clear hT
    simp only[zLd,zLe,putAll,zAp,zLa,zLb,zLc,Nat.reduceAdd,zNz] at hK⊢
    have hw2:Below w2.heap.size w2 w':=((ZR _ w2).drew).trans hb
    have hw:=Flow.hwD HW2.out hb
    go_simp
    exact hK _ _ (ZR _ _) rfl
   case s1=>
    intro xs w' hb hT K hK
    have h0:(xs 0)=.pointer (some ⟨ba,0,none⟩):=hT 0 (by kernel_rfl)
    clear hT
    simp only[zLd,zLe,putAll,zAp,zLa,zLb,zLc,Nat.reduceAdd,zNz] at hK⊢
    have hw2:Below w2.heap.size w2 w':=((ZR _ w2).drew).trans hb
    have hw:=Flow.hwD HW2.out hb
    have kb:=(hw.block ba (ZL HBba.out)).trans HBba.out
    have y0:=ZI kb 0
    clear kb
    simp at y0
    (try simp only[h0] at hK)
    go_simp
    exact hK _ _ (ZR _ _) rfl
   case s3=>
    intro xs w' hb hT K hK
    have h2:(xs 2)=.pointer (some ⟨bb,0,none⟩):=hT 2 (by kernel_rfl)
    clear hT
    simp only[zLd,zLe,putAll,zAp,zLa,zLb,zLc,Nat.reduceAdd,zNz] at hK⊢
    have hw2:Below w2.heap.size w2 w':=((ZR _ w2).drew).trans hb
    have hw:=Flow.hwD HW2.out hb
    have kb:=(hw.block bb (ZL HBbb.out)).trans HBbb.out
    have y0:=ZI kb 0
    clear kb
    simp at y0
    (try simp only[h2] at hK)
    go_simp
    exact hK _ _ (ZR _ _) rfl
   case s4=>
    intro xs w' hb hT K hK
    have h1:(xs 1)=.bool na:=hT 1 (by kernel_rfl)
    have h3:(xs 3)=.bool false:=hT 3 (by kernel_rfl)
    clear hT
    simp only[zLd,zLe,putAll,zAp,zLa,zLb,zLc,Nat.reduceAdd,zNz] at hK⊢
    have hw2:Below w2.heap.size w2 w':=((ZR _ w2).drew).trans hb
    have hw:=Flow.hwD HW2.out hb
    (try simp only[h1] at hK)
    (try simp only[h3] at hK)
    go_simp
    exact hK _ _ (ZR _ _) (by cases na<;>rfl)
   case s6=>
    intro xs w' hb hT K hK
    have h4:(xs 4)=.bool na:=hT 4 (by kernel_rfl)
    have h5:(xs 5)=.slice aq NQ cq:=hT 5 (by kernel_rfl)
    clear hT
    simp only[zLd,zLe,putAll,zAp,zLa,zLb,zLc,Nat.reduceAdd,zNz] at hK⊢
    have hw2:Below w2.heap.size w2 w':=((ZR _ w2).drew).trans hb
    have hw:=Flow.hwD HW2.out hb
    (try simp only[h4] at hK)
    (try simp only[h5] at hK)
    go_simp
    go_at_call 110
    refine (signed_any na (H2.out.1.below hw2)).mono ?_
    rintro e w3 ⟨v3,rfl,hi3,hb3⟩
    exact hK _ _ hb3 (by rw[H2.out.2.2.1] at hi3; exact hi3.more H2.out.2.2.2)
   case s8=>
    intro xs w' hb hT K hK
    have h7:(xs 7)=.pointer (some ⟨ba,0,none⟩):=hT 7 (by kernel_rfl)
    clear hT
    simp only[zLd,zLe,putAll,zAp,zLa,zLb,zLc,Nat.reduceAdd,zNz] at hK⊢
    have hw2:Below w2.heap.size w2 w':=((ZR _ w2).drew).trans hb
    have hw:=Flow.hwD HW2.out hb
    have kb:=(hw.block ba (ZL HBba.out)).trans HBba.out
    have y0:=ZI kb 0
    clear kb
    simp at y0
    (try simp only[h7] at hK)
    go_simp
    exact hK _ _ (ZR _ _) rfl
   case s10=>
    intro xs w' hb hT K hK
    have h8:(xs 8)=.bool na:=hT 8 (by kernel_rfl)
    have h9:(xs 9)=.slice ar 0 cr:=hT 9 (by kernel_rfl)
    clear hT
    simp only[zLd,zLe,putAll,zAp,zLa,zLb,zLc,Nat.reduceAdd,zNz] at hK⊢
    have hw2:Below w2.heap.size w2 w':=((ZR _ w2).drew).trans hb
    have hw:=Flow.hwD HW2.out hb
    (try simp only[h8] at hK)
    (try simp only[h9] at hK)
    go_simp
    go_at_call 110
    refine (signed_any na (H2.out.2.1.below hw2)).mono ?_
    rintro e w3 ⟨v3,rfl,hi3,hb3⟩
    exact hK _ _ hb3 (by rw[int_zero rfl] at hi3; exact hi3.more (Nat.zero_le _))
  case fin=>
   intro xs w' hb hT
   have hw2:Below w2.heap.size w2 w':=((ZR _ w2).drew).trans hb
   have hw:=Flow.hwD HW2.out hb
   have h6:IntIn w' (xs 6) q k:=hT 6 (by omega)
   have h10:IntIn w' (xs 10) 0 k:=hT 10 (by omega)
   clear hT
   simp only[zLd,zLe,putAll,zAp,zLa,zLb,zLc,Nat.reduceAdd,zNz]
   obtain ⟨s4,a4,c4,l4,e4,-⟩:=int_sign h6
   obtain ⟨s5,a5,c5,l5,e5,-⟩:=int_sign h10
   rw[e4] at h6
   rw[e5] at h10
   simp only[e4,e5]
   have HI:=ZH (ZN h6 h10)
   generalize l4.length=N4 at *
   generalize l5.length=N5 at *
   have kc:=(hw.block bc (ZL HBbc.out)).trans HBbc.out
   have kd:=(hw.block bd (ZL HBbd.out)).trans HBbd.out
   have z0:=ZI kc 0
   have z1:=ZI kc 1
   have v0:=ZI kd 0
   have v1:=ZI kd 1
   have f0:=ZF kc 0
   have f1:=ZF kc 1
   have g0:=ZF kd 0
   have g1:=ZF kd 1
   simp at z0 z1 v0 v1
   have n1:¬bc=bd:=by have:=HNE.out.1; omega
   have n2:¬bd=bc:=by have:=HNE.out.1; omega
   have HKC:=ZH (ZN kc kd)
   have HW4:=ZH hw
   clear h6 h10 e4 e5 hb hw hw2 kc kd
   refine wpAny_ready (rs:=[11]) (by kernel_rfl) (by simp) (AllReady.cons rfl (fun K hK=>?_) AllReady.nil)
   go_simp
   refine hK _ _ ?_
   clear hK K
   refine wpAny_ready (rs:=[12]) (by kernel_rfl) (by simp) (AllReady.cons rfl (fun K hK=>?_) AllReady.nil)
   go_simp
   refine hK _ _ ?_
   clear hK K
   refine wpAny_done (by kernel_rfl) ?_ _
   have p1:=pair_block HKC.out.1 (.bool s4) (.slice a4 N4 c4)
   have p2:=(pair_other n2 (.bool s4) (.slice a4 N4 c4)).trans HKC.out.2
   have p3:=(pair_other n1 (.bool s5) (.slice a5 N5 c5)).trans p1
   have p4:=pair_block p2 (.bool s5) (.slice a5 N5 c5)
   have i1:=(HI.out.1.store HKC.out.1 (.bool s4) (.slice a4 N4 c4)).store p2 (.bool s5) (.slice a5 N5 c5)
   have i2:=(HI.out.2.store HKC.out.1 (.bool s4) (.slice a4 N4 c4)).store p2 (.bool s5) (.slice a5 N5 c5)
   have hbf:=((((HAL.out.trans (HW4.out.mono HAL.out.size)).setCell (p:=⟨bc,0,none⟩) HGbc.out (.bool s4)).setCell (p:=⟨bc,1,none⟩) HGbc.out (.slice a4 N4 c4)).setCell (p:=⟨bd,0,none⟩) HGbd.out (.bool s5)).setCell (p:=⟨bd,1,none⟩) HGbd.out (.slice a5 N5 c5)
   clear z0 z1 v0 v1 f0 f1 g0 g1
   generalize ((((w'.setCell ⟨bc,0,none⟩ (.bool s4)).setCell ⟨bc,1,none⟩ (.slice a4 N4 c4)).setCell ⟨bd,0,none⟩ (.bool s5)).setCell ⟨bd,1,none⟩ (.slice a5 N5 c5))=ws at *
   have HS:=ZH (ZN p3 (ZN p4 (ZN i1 (ZN i2 hbf))))
   have v0:=ZI p4 0
   have v1:=ZI p4 1
   simp at v0 v1
   clear p1 p2 p3 p4 i1 i2 hbf
   go_upto_region 5 with fail
   go_wp2_with fail
   refine (Sign_any HS.out.2.2.2.1).mono ?_
   rintro e w6 ⟨rfl,hb6⟩
   rw[show cmpI 0 0=0 from rfl]
   have kc:=(hb6.block bc (ZL HS.out.1)).trans HS.out.1
   have kd:=(hb6.block bd (ZL HS.out.2.1)).trans HS.out.2.1
   have z0:=ZI kc 0
   have z1:=ZI kc 1
   have v0:=ZI kd 0
   have v1:=ZI kd 1
   have f0:=ZF kc 0
   have f1:=ZF kc 1
   have g0:=ZF kd 0
   have g1:=ZF kd 1
   simp at z0 z1 v0 v1
   have H6:=ZH (ZN kc (ZN kd hb6))
   clear kc kd hb6
   go_upto_region 7 with fail
   go_region
   all_goals
    have p2:=(pair_other n2 (.bool s4) (.slice a4 N4 c4)).trans H6.out.2.1
    have i1:=(((HS.out.2.2.1.below H6.out.2.2).pair H6.out.1 (.bool s4) (.slice a4 N4 c4)).pair p2 (.bool s5) (.slice a5 N5 c5)).below (ZR _ _).drew
    have i2:=(((HS.out.2.2.2.1.below H6.out.2.2).pair H6.out.1 (.bool s4) (.slice a4 N4 c4)).pair p2 (.bool s5) (.slice a5 N5 c5)).below (ZR _ _).drew
    have hbf:=(((((HS.out.2.2.2.2.trans (H6.out.2.2.mono HS.out.2.2.2.2.size)).setCell (p:=⟨bc,0,none⟩) HGbc.out (.bool s4)).setCell (p:=⟨bc,1,none⟩) HGbc.out (.slice a4 N4 c4)).setCell (p:=⟨bd,0,none⟩) HGbd.out (.bool s5)).setCell (p:=⟨bd,1,none⟩) HGbd.out (.slice a5 N5 c5)).drew
    have HF:=ZH (ZN i1 (ZN i2 hbf))
    clear p2 i1 i2 hbf
    go_wp2_with fail
    exact bodyPost_ret (v:=.tuple #[.agg #[.bool s4,.slice a4 N4 c4],.agg #[.bool s5,.slice a5 N5 c5],.int .i64 0]) (by simp[results,Tryz.results135,go_sem,z0,z1,v0,v1]) rfl ⟨_,_,rfl,HF.out⟩
end Go.Proofs.YtdcaaehapdhckaaGreatDoor
