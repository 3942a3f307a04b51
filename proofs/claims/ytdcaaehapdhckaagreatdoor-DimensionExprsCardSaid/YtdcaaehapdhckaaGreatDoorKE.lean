/- Rationals: Add, Sub. -/
import Derived.Test.YtdcaaehapdhckaaGreatDoorKD
set_option linter.unusedSimpArgs false
set_option linter.unusedVariables false
set_option maxRecDepth 100000
namespace Go.Proofs.YtdcaaehapdhckaaGreatDoor
open List renaming setIfInBounds_toArray → zLa, set_cons_zero → zLb, set_cons_succ → zLc, take_succ_cons → zLd, take_zero → zLe
open Act renaming put → zAp
open Nat renaming zero_add → zNz
open Go.RowKit Go.Num Go.Flow
set_option maxHeartbeats 8000000
set_option linter.unusedVariables false

theorem ratAdd_any {w:World} {va vb:Value} {r s:Rat} {k m:Nat} (ha:RtIn w va r k) (hb:RtIn w vb s m) (hk:2≤k) (hm:2≤m) (hkm:k+m+1≤900000):Calls Tryz.prog 59 #[va,vb] w fun e w'=>∃v,e=.returned v∧RtIn w' v (r+s) (k+m+1)∧Below w.heap.size w w':=by
 obtain ⟨qa,⟨na1,ma1,na2,ma2,rfl,hna,hda,hqa⟩,hqda⟩:=ha
 obtain ⟨qb,⟨nb1,mb1,nb2,mb2,rfl,hnb,hdb,hqb⟩,hqdb⟩:=hb
 obtain ⟨wa,hwa⟩:∃wa,wa=((w.alloc (.cells #[.bool na1,ma1,.bool na2,ma2] 47)).alloc (.cells #[.bool nb1,mb1,.bool nb2,mb2] 47)).alloc (.cells #[.bool false,.slice none 0 0,.bool false,.slice none 0 0] 47):=⟨_,rfl⟩
 obtain ⟨ba,hba⟩:∃b,b=w.heap.size:=⟨_,rfl⟩
 obtain ⟨bb,hbb⟩:∃b,b=w.heap.size+1:=⟨_,rfl⟩
 obtain ⟨bz,hbz⟩:∃b,b=w.heap.size+2:=⟨_,rfl⟩
 have hal:Below w.heap.size w wa:=by rw[hwa]; exact (((ZR _ w).alloc (Nat.le_refl _) _).alloc (by simp) _).alloc (by simp; omega) _
 obtain ⟨k0,k1,k2⟩:=three_made w #[.bool na1,ma1,.bool na2,ma2] #[.bool nb1,mb1,.bool nb2,mb2] #[.bool false,.slice none 0 0,.bool false,.slice none 0 0] 47 47 47
 rw[←hwa,←hba] at k0
 rw[←hwa,←hbb] at k1
 rw[←hwa,←hbz] at k2
 have HBba:=ZH k0
 have HBbb:=ZH k1
 have HBbz:=ZH k2
 have HAL:=ZH hal
 have HW0:=ZH (ZR wa.heap.size wa)
 have HW:=ZH (ZN hwa (ZN hba (ZN hbb hbz)))
 have HGbz:=ZH (show w.heap.size≤bz by omega)
 have HRa:=ZH (show RtIn wa (.agg #[.bool na1,ma1,.bool na2,ma2]) r k from ⟨qa,⟨_,_,_,_,rfl,hna.below hal,hda.below hal,hqa⟩,hqda⟩)
 have HNa:=ZH (hna.below hal)
 clear hna hda hqa hqda
 have HRb:=ZH (show RtIn wa (.agg #[.bool nb1,mb1,.bool nb2,mb2]) s m from ⟨qb,⟨_,_,_,_,rfl,hnb.below hal,hdb.below hal,hqb⟩,hqdb⟩)
 have HNb:=ZH (hnb.below hal)
 clear hnb hdb hqb hqdb
 clear hal hwa hba hbb hbz k0 k1 k2
 go_enter Tryz.func59,Tryz.ntmps59
 go_upto_region 1 with fail
 rw[←HW.out.1,←HW.out.2.2.2,←HW.out.2.2.1,←HW.out.2.1]
 clear HW
 refine wp_region_seq [0,1,2,3,4,5] 6 (fun i v w'=>match i with
  | 0=>v=.agg #[.bool na1,ma1,.bool na2,ma2]
  | 1=>v=.bool (isInt r)
  | 2=>v=.bool (isInt r)
  | 3=>(isInt r)=true→v=.agg #[.bool nb1,mb1,.bool nb2,mb2]
  | 4=>(isInt r)=true→v=.bool (isInt s)
  | _=>v=.bool ((isInt r)&&(isInt s))) rfl rfl (by kernel_rfl) (by kernel_rfl) ?st ?steps ?fin
 case st=>
  intro i v w1 w2 h hb
  match i with
  | 0 | 1 | 2 | 3 | 4 | _+5=>exact h
 case steps=>
  refine Steps.cons (Step.of rfl ?s0) (Steps.cons (Step.of rfl ?s1) (Steps.cons (Step.of rfl ?s2) (Steps.cons (Step.of rfl ?s3) (Steps.cons (Step.of rfl ?s4) (Steps.cons (Step.of rfl ?s5) Steps.nil)))))
  case s0=>
   intro xs w' hb hT K hK
   clear hT
   simp only[zLd,zLe,putAll,zAp,zLa,zLb,zLc,Nat.reduceAdd,zNz] at hK⊢
   have hw:=Flow.hwP HW0.out hb
   have kb:=(hw.block ba (ZL HBba.out)).trans HBba.out
   have y0:=ZI kb 0
   have y1:=ZI kb 1
   have y2:=ZI kb 2
   have y3:=ZI kb 3
   clear kb
   simp at y0 y1 y2 y3
   go_simp
   exact hK _ _ (ZR _ _) rfl
  case s1=>
   intro xs w' hb hT K hK
   have h0:(xs 0)=.agg #[.bool na1,ma1,.bool na2,ma2]:=hT 0 (by kernel_rfl)
   clear hT
   simp only[zLd,zLe,putAll,zAp,zLa,zLb,zLc,Nat.reduceAdd,zNz] at hK⊢
   have hw:=Flow.hwP HW0.out hb
   (try simp only[h0] at hK)
   go_simp
   go_at_call 78
   refine (rwhole_any (HRa.out.below hw)).mono ?_
   rintro e w3 ⟨rfl,hb3⟩
   exact hK _ _ hb3 rfl
  case s2=>
   intro xs w' hb hT K hK
   have h1:(xs 1)=.bool (isInt r):=hT 1 (by kernel_rfl)
   clear hT
   simp only[zLd,zLe,putAll,zAp,zLa,zLb,zLc,Nat.reduceAdd,zNz] at hK⊢
   have hw:=Flow.hwP HW0.out hb
   (try simp only[h1] at hK)
   go_simp
   exact hK _ _ (ZR _ _) rfl
  case s3=>
   intro xs w' hb hT K hK
   have h2:(xs 2)=.bool (isInt r):=hT 2 (by kernel_rfl)
   clear hT
   simp only[zLd,zLe,putAll,zAp,zLa,zLb,zLc,Nat.reduceAdd,zNz] at hK⊢
   have hw:=Flow.hwP HW0.out hb
   by_cases hg:(isInt r)=true
   ·rw[hg] at h2
    have kb:=(hw.block bb (ZL HBbb.out)).trans HBbb.out
    have y0:=ZI kb 0
    have y1:=ZI kb 1
    have y2:=ZI kb 2
    have y3:=ZI kb 3
    clear kb
    simp at y0 y1 y2 y3
    (try simp only[h2] at hK)
    go_simp
    exact hK _ _ (ZR _ _) (fun _=>rfl)
   ·have hg':(isInt r)=false:=by simpa using hg
    rw[hg'] at h2
    (try simp only[h2] at hK)
    go_simp
    exact hK _ _ (ZR _ _) (fun h=>absurd h hg)
  case s4=>
   intro xs w' hb hT K hK
   have h2:(xs 2)=.bool (isInt r):=hT 2 (by kernel_rfl)
   have h3:(isInt r)=true→(xs 3)=.agg #[.bool nb1,mb1,.bool nb2,mb2]:=hT 3 (by kernel_rfl)
   clear hT
   simp only[zLd,zLe,putAll,zAp,zLa,zLb,zLc,Nat.reduceAdd,zNz] at hK⊢
   have hw:=Flow.hwP HW0.out hb
   by_cases hg:(isInt r)=true
   ·rw[hg] at h2
    replace h3:=h3 hg
    (try simp only[h2] at hK)
    (try simp only[h3] at hK)
    go_simp
    go_at_call 78
    refine (rwhole_any (HRb.out.below hw)).mono ?_
    rintro e w3 ⟨rfl,hb3⟩
    exact hK _ _ hb3 (fun _=>rfl)
   ·have hg':(isInt r)=false:=by simpa using hg
    rw[hg'] at h2
    (try simp only[h2] at hK)
    clear h3
    go_simp
    exact hK _ _ (ZR _ _) (fun h=>absurd h hg)
  case s5=>
   intro xs w' hb hT K hK
   have h2:(xs 2)=.bool (isInt r):=hT 2 (by kernel_rfl)
   have h4:(isInt r)=true→(xs 4)=.bool (isInt s):=hT 4 (by kernel_rfl)
   clear hT
   simp only[zLd,zLe,putAll,zAp,zLa,zLb,zLc,Nat.reduceAdd,zNz] at hK⊢
   have hw:=Flow.hwP HW0.out hb
   by_cases hg:(isInt r)=true
   ·rw[hg] at h2
    replace h4:=h4 hg
    (try simp only[h2] at hK)
    (try simp only[h4] at hK)
    go_simp
    exact hK _ _ (ZR _ _) (by simp[ hg])
   ·have hg':(isInt r)=false:=by simpa using hg
    rw[hg'] at h2
    clear h4
    (try simp only[h2] at hK)
    go_simp
    exact hK _ _ (ZR _ _) (by simp[ hg'])
 case fin=>
  intro xs w' hb hT
  have hw:=Flow.hwP HW0.out hb
  have h5:(xs 5)=.bool ((isInt r)&&(isInt s)):=hT 5 (by omega)
  clear hT
  simp only[zLd,zLe,putAll,zAp,zLa,zLb,zLc,Nat.reduceAdd,zNz,List.drop_succ_cons,List.drop_zero]
  by_cases hc:(isInt r&&isInt s)=true
  ·rw[hc] at h5
   simp only[h5]
   clear h5
   refine wpList_nil ?_
   obtain ⟨w1,e1⟩:∃w1,w1=w':=⟨_,rfl⟩
   rw[←e1] at hw⊢
   have HW1:=ZH hw
   clear hb hw e1
   have HC:=ZH (add_ints hc)
   clear hc
   go_upto_region 2 with fail
   refine wp_region_seq [0,1,2,3,4,5] 6 (fun i v w'=>match i with
    | 0=>v=.pointer (some ⟨ba,0,none⟩)
    | 1=>v=.agg #[.bool na1,ma1]
    | 2=>v=.pointer (some ⟨bb,0,none⟩)
    | 3=>v=.agg #[.bool nb1,mb1]
    | 4=>IntIn w' v (r.num+s.num) (k+m+1)
    | _=>RtIn w' v (r+s) (k+m+1)) rfl rfl (by kernel_rfl) (by kernel_rfl) ?st ?steps ?fin
   case st=>
    intro i v w1 w2 h hb
    match i with
    | 0 | 1 | 2 | 3=>exact h
    | 4=>exact (show IntIn w1 v (r.num+s.num) (k+m+1) from h).below hb
    | _+5=>exact (show RtIn w1 v (r+s) (k+m+1) from h).below hb
   case steps=>
    refine Steps.cons (Step.of rfl ?s0) (Steps.cons (Step.of rfl ?s1) (Steps.cons (Step.of rfl ?s2) (Steps.cons (Step.of rfl ?s3) (Steps.cons (Step.of rfl ?s4) (Steps.cons (Step.of rfl ?s5) Steps.nil)))))
    case s0 | s2=>
     intro xs w' hb hT K hK
     clear hT
     simp only[zLd,zLe,putAll,zAp,zLa,zLb,zLc,Nat.reduceAdd,zNz] at hK⊢
     have hw:=Flow.hwP HW1.out hb
     go_simp
     exact hK _ _ (ZR _ _) rfl
    case s1=>
     intro xs w' hb hT K hK
     have h0:(xs 0)=.pointer (some ⟨ba,0,none⟩):=hT 0 (by kernel_rfl)
     clear hT
     simp only[zLd,zLe,putAll,zAp,zLa,zLb,zLc,Nat.reduceAdd,zNz] at hK⊢
     have hw:=Flow.hwP HW1.out hb
     have kb:=(hw.block ba (ZL HBba.out)).trans HBba.out
     have y0:=ZI kb 0
     have y1:=ZI kb 1
     clear kb
     simp at y0 y1
     (try simp only[h0] at hK)
     go_simp
     exact hK _ _ (ZR _ _) rfl
    case s3=>
     intro xs w' hb hT K hK
     have h2:(xs 2)=.pointer (some ⟨bb,0,none⟩):=hT 2 (by kernel_rfl)
     clear hT
     simp only[zLd,zLe,putAll,zAp,zLa,zLb,zLc,Nat.reduceAdd,zNz] at hK⊢
     have hw:=Flow.hwP HW1.out hb
     have kb:=(hw.block bb (ZL HBbb.out)).trans HBbb.out
     have y0:=ZI kb 0
     have y1:=ZI kb 1
     clear kb
     simp at y0 y1
     (try simp only[h2] at hK)
     go_simp
     exact hK _ _ (ZR _ _) rfl
    case s4=>
     intro xs w' hb hT K hK
     have h1:(xs 1)=.agg #[.bool na1,ma1]:=hT 1 (by kernel_rfl)
     have h3:(xs 3)=.agg #[.bool nb1,mb1]:=hT 3 (by kernel_rfl)
     clear hT
     simp only[zLd,zLe,putAll,zAp,zLa,zLb,zLc,Nat.reduceAdd,zNz] at hK⊢
     have hw:=Flow.hwP HW1.out hb
     (try simp only[h1] at hK)
     (try simp only[h3] at hK)
     go_simp
     go_at_call 99
     refine (Add_any (((HNa.out.below hw)).more (show k≤k+m by omega)) (((HNb.out.below hw)).more (show m≤k+m by omega)) (by omega)).mono ?_
     rintro e w3 ⟨v3,rfl,hi3,hb3⟩
     exact hK _ _ hb3 hi3
    case s5=>
     intro xs w' hb hT K hK
     have h4:IntIn w' (xs 4) (r.num+s.num) (k+m+1):=hT 4 (by kernel_rfl)
     clear hT
     simp only[zLd,zLe,putAll,zAp,zLa,zLb,zLc,Nat.reduceAdd,zNz] at hK⊢
     have hw:=Flow.hwP HW1.out hb
     obtain ⟨s1,a1,c1,l1,e1,hr⟩:=rt_of_int h4
     rw[←HC.out] at hr
     (try simp only[e1] at hK)
     go_simp
     exact hK _ _ (ZR _ _) hr
   case fin=>
    intro xs w' hb hT
    have hw:=Flow.hwP HW1.out hb
    have h5:RtIn w' (xs 5) (r+s) (k+m+1):=hT 5 (by omega)
    clear hT
    simp only[zLd,zLe,putAll,zAp,zLa,zLb,zLc,Nat.reduceAdd,zNz,List.drop_succ_cons,List.drop_zero]
    obtain ⟨s1,a1,c1,l1,s2,a2,c2,l2,e4⟩:=rt_shape h5
    rw[e4] at h5
    simp only[e4]
    have kz:=(hw.block bz (ZL HBbz.out)).trans HBbz.out
    have z0:=ZI kz 0
    have z1:=ZI kz 1
    have z2:=ZI kz 2
    have z3:=ZI kz 3
    have f0:=ZF kz 0
    have f1:=ZF kz 1
    have f2:=ZF kz 2
    have f3:=ZF kz 3
    simp at z0 z1 z2 z3
    have hi:=h5.store4 kz (.bool s1) (.slice a1 c1 l1) (.bool s2) (.slice a2 c2 l2)
    have hbf:=((((HAL.out.trans (hw.mono HAL.out.size)).setCell (p:=⟨bz,0,none⟩) HGbz.out (.bool s1)).setCell (p:=⟨bz,1,none⟩) HGbz.out (.slice a1 c1 l1)).setCell (p:=⟨bz,2,none⟩) HGbz.out (.bool s2)).setCell (p:=⟨bz,3,none⟩) HGbz.out (.slice a2 c2 l2)
    have HF:=ZH (ZN hi hbf)
    clear hi hbf h5 e4 kz hb hw
    go_wp2_with fail
    exact bodyPost_ret (v:=.agg #[.bool s1,.slice a1 c1 l1,.bool s2,.slice a2 c2 l2]) (by simp[results,Tryz.results59,go_sem,z0,z1,z2,z3]) rfl ⟨_,rfl,HF.out⟩
  ·have hc':(isInt r&&isInt s)=false:=by simpa using hc
   rw[hc'] at h5
   simp only[h5]
   clear h5
   refine wpList_nil ?_
   obtain ⟨w1,e1⟩:∃w1,w1=w':=⟨_,rfl⟩
   rw[←e1] at hw⊢
   have HW1:=ZH hw
   clear hb hw e1
   clear hc hc'
   go_upto_region 3 with fail
   refine wp_region_flow [0,1,2,3,4,5,6,7,8,9,10,11,12,13,14,15,16] 17 (fun i v w'=>match i with
    | 0=>v=.pointer (some ⟨ba,0,none⟩)
    | 1=>v=.agg #[.bool na1,ma1]
    | 2=>v=.agg #[.bool nb1,mb1,.bool nb2,mb2]
    | 3=>IntIn w' v s.den m
    | 4=>IntIn w' v (r.num*s.den) (k+m)
    | 5=>v=.pointer (some ⟨bb,0,none⟩)
    | 6=>v=.agg #[.bool nb1,mb1]
    | 7=>v=.agg #[.bool na1,ma1,.bool na2,ma2]
    | 8=>IntIn w' v r.den k
    | 9=>IntIn w' v (s.num*r.den) (m+k)
    | 10=>IntIn w' v (r.num*s.den+s.num*r.den) (k+m+1)
    | 11=>v=.agg #[.bool na1,ma1,.bool na2,ma2]
    | 12=>IntIn w' v r.den k
    | 13=>v=.agg #[.bool nb1,mb1,.bool nb2,mb2]
    | 14=>IntIn w' v s.den m
    | 15=>IntIn w' v (r.den*s.den) (k+m)
    | _=>RtIn w' v (r+s) (k+m+1)) rfl rfl (by kernel_rfl) (by kernel_rfl) ?st ?steps ?fin
   case st=>
    intro i v w1 w2 h hb
    match i with
    | 0 | 1 | 2 | 5 | 6 | 7 | 11 | 13=>exact h
    | 3 | 14=>exact (show IntIn w1 v s.den m from h).below hb
    | 4=>exact (show IntIn w1 v (r.num*s.den) (k+m) from h).below hb
    | 8 | 12=>exact (show IntIn w1 v r.den k from h).below hb
    | 9=>exact (show IntIn w1 v (s.num*r.den) (m+k) from h).below hb
    | 10=>exact (show IntIn w1 v (r.num*s.den+s.num*r.den) (k+m+1) from h).below hb
    | 15=>exact (show IntIn w1 v (r.den*s.den) (k+m) from h).below hb
    | _+16=>exact (show RtIn w1 v (r+s) (k+m+1) from h).below hb
   case steps=>
    refine Steps.cons (Step.of rfl ?s0) (Steps.cons (Step.of rfl ?s1) (Steps.cons (Step.of rfl ?s2) (Steps.cons (Step.of rfl ?s3) (Steps.cons (Step.of rfl ?s4) (Steps.cons (Step.of rfl ?s5) (Steps.cons (Step.of rfl ?s6) (Steps.cons (Step.of rfl ?s7) (Steps.cons (Step.of rfl ?s8) (Steps.cons (Step.of rfl ?s9) (Steps.cons (Step.of rfl ?s10) (Steps.cons (Step.of rfl ?s11) (Steps.cons (Step.of rfl ?s12) (Steps.cons (Step.of rfl ?s13) (Steps.cons (Step.of rfl ?s14) (Steps.cons (Step.of rfl ?s15) (Steps.cons (Step.of rfl ?s16) Steps.nil))))))))))))))))
    case s0 | s5=>
     intro xs w' hb hT K hK
     clear hT
     simp only[zLd,zLe,putAll,zAp,zLa,zLb,zLc,Nat.reduceAdd,zNz] at hK⊢
     have hw:=Flow.hwD HW1.out hb
     go_simp
     exact hK _ _ (ZR _ _) rfl
    case s1=>
     intro xs w' hb hT K hK
     have h0:(xs 0)=.pointer (some ⟨ba,0,none⟩):=hT 0 (by kernel_rfl)
     clear hT
     simp only[zLd,zLe,putAll,zAp,zLa,zLb,zLc,Nat.reduceAdd,zNz] at hK⊢
     have hw:=Flow.hwD HW1.out hb
     have kb:=(hw.block ba (ZL HBba.out)).trans HBba.out
     have y0:=ZI kb 0
     have y1:=ZI kb 1
     clear kb
     simp at y0 y1
     (try simp only[h0] at hK)
     go_simp
     exact hK _ _ (ZR _ _) rfl
    case s2 | s13=>
     intro xs w' hb hT K hK
     clear hT
     simp only[zLd,zLe,putAll,zAp,zLa,zLb,zLc,Nat.reduceAdd,zNz] at hK⊢
     have hw:=Flow.hwD HW1.out hb
     have kb:=(hw.block bb (ZL HBbb.out)).trans HBbb.out
     have y0:=ZI kb 0
     have y1:=ZI kb 1
     have y2:=ZI kb 2
     have y3:=ZI kb 3
     clear kb
     simp at y0 y1 y2 y3
     go_simp
     exact hK _ _ (ZR _ _) rfl
    case s3=>
     intro xs w' hb hT K hK
     have h2:(xs 2)=.agg #[.bool nb1,mb1,.bool nb2,mb2]:=hT 2 (by kernel_rfl)
     clear hT
     simp only[zLd,zLe,putAll,zAp,zLa,zLb,zLc,Nat.reduceAdd,zNz] at hK⊢
     have hw:=Flow.hwD HW1.out hb
     (try simp only[h2] at hK)
     go_simp
     go_at_call 102
     refine (Den_any (HRb.out.below hw) hm).mono ?_
     rintro e w3 ⟨v3,rfl,hi3,hb3⟩
     exact hK _ _ hb3 hi3
    case s4=>
     intro xs w' hb hT K hK
     have h1:(xs 1)=.agg #[.bool na1,ma1]:=hT 1 (by kernel_rfl)
     have h3:IntIn w' (xs 3) s.den m:=hT 3 (by kernel_rfl)
     clear hT
     simp only[zLd,zLe,putAll,zAp,zLa,zLb,zLc,Nat.reduceAdd,zNz] at hK⊢
     have hw:=Flow.hwD HW1.out hb
     (try simp only[h1] at hK)
     go_simp
     go_at_call 101
     refine (Mul_any (HNa.out.below hw) h3 (by omega)).mono ?_
     rintro e w3 ⟨v3,rfl,hi3,hb3⟩
     exact hK _ _ hb3 hi3
    case s6=>
     intro xs w' hb hT K hK
     have h5:(xs 5)=.pointer (some ⟨bb,0,none⟩):=hT 5 (by kernel_rfl)
     clear hT
     simp only[zLd,zLe,putAll,zAp,zLa,zLb,zLc,Nat.reduceAdd,zNz] at hK⊢
     have hw:=Flow.hwD HW1.out hb
     have kb:=(hw.block bb (ZL HBbb.out)).trans HBbb.out
     have y0:=ZI kb 0
     have y1:=ZI kb 1
     clear kb
     simp at y0 y1
     (try simp only[h5] at hK)
     go_simp
     exact hK _ _ (ZR _ _) rfl
    case s7 | s11=>
     intro xs w' hb hT K hK
     clear hT
     simp only[zLd,zLe,putAll,zAp,zLa,zLb,zLc,Nat.reduceAdd,zNz] at hK⊢
     have hw:=Flow.hwD HW1.out hb
     have kb:=(hw.block ba (ZL HBba.out)).trans HBba.out
     have y0:=ZI kb 0
     have y1:=ZI kb 1
     have y2:=ZI kb 2
     have y3:=ZI kb 3
     clear kb
     simp at y0 y1 y2 y3
     go_simp
     exact hK _ _ (ZR _ _) rfl
    case s8=>
     intro xs w' hb hT K hK
     have h7:(xs 7)=.agg #[.bool na1,ma1,.bool na2,ma2]:=hT 7 (by kernel_rfl)
     clear hT
     simp only[zLd,zLe,putAll,zAp,zLa,zLb,zLc,Nat.reduceAdd,zNz] at hK⊢
     have hw:=Flow.hwD HW1.out hb
     (try simp only[h7] at hK)
     go_simp
     go_at_call 102
     refine (Den_any (HRa.out.below hw) hk).mono ?_
     rintro e w3 ⟨v3,rfl,hi3,hb3⟩
     exact hK _ _ hb3 hi3
    case s9=>
     intro xs w' hb hT K hK
     have h6:(xs 6)=.agg #[.bool nb1,mb1]:=hT 6 (by kernel_rfl)
     have h8:IntIn w' (xs 8) r.den k:=hT 8 (by kernel_rfl)
     clear hT
     simp only[zLd,zLe,putAll,zAp,zLa,zLb,zLc,Nat.reduceAdd,zNz] at hK⊢
     have hw:=Flow.hwD HW1.out hb
     (try simp only[h6] at hK)
     go_simp
     go_at_call 101
     refine (Mul_any (HNb.out.below hw) h8 (by omega)).mono ?_
     rintro e w3 ⟨v3,rfl,hi3,hb3⟩
     exact hK _ _ hb3 hi3
    case s10=>
     intro xs w' hb hT K hK
     have h4:IntIn w' (xs 4) (r.num*s.den) (k+m):=hT 4 (by kernel_rfl)
     have h9:IntIn w' (xs 9) (s.num*r.den) (m+k):=hT 9 (by kernel_rfl)
     clear hT
     simp only[zLd,zLe,putAll,zAp,zLa,zLb,zLc,Nat.reduceAdd,zNz] at hK⊢
     have hw:=Flow.hwD HW1.out hb
     go_simp
     go_at_call 99
     refine (Add_any (h4) ((h9).more (show m+k≤k+m by omega)) (by omega)).mono ?_
     rintro e w3 ⟨v3,rfl,hi3,hb3⟩
     exact hK _ _ hb3 hi3
    case s12=>
     intro xs w' hb hT K hK
     have h11:(xs 11)=.agg #[.bool na1,ma1,.bool na2,ma2]:=hT 11 (by kernel_rfl)
     clear hT
     simp only[zLd,zLe,putAll,zAp,zLa,zLb,zLc,Nat.reduceAdd,zNz] at hK⊢
     have hw:=Flow.hwD HW1.out hb
     (try simp only[h11] at hK)
     go_simp
     go_at_call 102
     refine (Den_any (HRa.out.below hw) hk).mono ?_
     rintro e w3 ⟨v3,rfl,hi3,hb3⟩
     exact hK _ _ hb3 hi3
    case s14=>
     intro xs w' hb hT K hK
     have h13:(xs 13)=.agg #[.bool nb1,mb1,.bool nb2,mb2]:=hT 13 (by kernel_rfl)
     clear hT
     simp only[zLd,zLe,putAll,zAp,zLa,zLb,zLc,Nat.reduceAdd,zNz] at hK⊢
     have hw:=Flow.hwD HW1.out hb
     (try simp only[h13] at hK)
     go_simp
     go_at_call 102
     refine (Den_any (HRb.out.below hw) hm).mono ?_
     rintro e w3 ⟨v3,rfl,hi3,hb3⟩
     exact hK _ _ hb3 hi3
    case s15=>
     intro xs w' hb hT K hK
     have h12:IntIn w' (xs 12) r.den k:=hT 12 (by kernel_rfl)
     have h14:IntIn w' (xs 14) s.den m:=hT 14 (by kernel_rfl)
     clear hT
     simp only[zLd,zLe,putAll,zAp,zLa,zLb,zLc,Nat.reduceAdd,zNz] at hK⊢
     have hw:=Flow.hwD HW1.out hb
     go_simp
     go_at_call 101
     refine (Mul_any h12 h14 (by omega)).mono ?_
     rintro e w3 ⟨v3,rfl,hi3,hb3⟩
     exact hK _ _ hb3 hi3
    case s16=>
     intro xs w' hb hT K hK
     have h10:IntIn w' (xs 10) (r.num*s.den+s.num*r.den) (k+m+1):=hT 10 (by kernel_rfl)
     have h15:IntIn w' (xs 15) (r.den*s.den) (k+m):=hT 15 (by kernel_rfl)
     clear hT
     simp only[zLd,zLe,putAll,zAp,zLa,zLb,zLc,Nat.reduceAdd,zNz] at hK⊢
     have hw:=Flow.hwD HW1.out hb
     go_simp
     go_at_call 100
     refine (reduced_any h10 ((h15).more (show k+m≤k+m+1 by omega)) (den_pos r s) (by omega)).mono ?_
     rintro e w3 ⟨v3,rfl,hi3,hb3⟩
     exact hK _ _ hb3 (by rw[←add_is] at hi3; exact hi3)
   case fin=>
    intro xs w' hb hT
    have hw:=Flow.hwD HW1.out hb
    have h16:RtIn w' (xs 16) (r+s) (k+m+1):=hT 16 (by omega)
    clear hT
    simp only[zLd,zLe,putAll,zAp,zLa,zLb,zLc,Nat.reduceAdd,zNz]
    obtain ⟨s1,a1,c1,l1,s2,a2,c2,l2,e4⟩:=rt_shape h16
    rw[e4] at h16
    simp only[e4]
    have kz:=(hw.block bz (ZL HBbz.out)).trans HBbz.out
    have z0:=ZI kz 0
    have z1:=ZI kz 1
    have z2:=ZI kz 2
    have z3:=ZI kz 3
    have f0:=ZF kz 0
    have f1:=ZF kz 1
    have f2:=ZF kz 2
    have f3:=ZF kz 3
    simp at z0 z1 z2 z3
    have hi:=h16.store4 kz (.bool s1) (.slice a1 c1 l1) (.bool s2) (.slice a2 c2 l2)
    have hbf:=((((HAL.out.trans (hw.mono HAL.out.size)).setCell (p:=⟨bz,0,none⟩) HGbz.out (.bool s1)).setCell (p:=⟨bz,1,none⟩) HGbz.out (.slice a1 c1 l1)).setCell (p:=⟨bz,2,none⟩) HGbz.out (.bool s2)).setCell (p:=⟨bz,3,none⟩) HGbz.out (.slice a2 c2 l2)
    have HF:=ZH (ZN hi hbf)
    clear hi hbf h16 e4 kz hb hw
    refine wpAny_ready (rs:=[17]) (by kernel_rfl) (by simp) (AllReady.cons rfl (fun K hK=>?_) AllReady.nil)
    go_simp
    refine hK _ _ ?_
    clear hK K
    refine wpAny_done (by kernel_rfl) ?_ _
    go_wp2_with fail
    exact bodyPost_ret (v:=.agg #[.bool s1,.slice a1 c1 l1,.bool s2,.slice a2 c2 l2]) (by simp[results,Tryz.results59,go_sem,z0,z1,z2,z3]) rfl ⟨_,rfl,HF.out⟩
theorem ratMul_any {w:World} {va vb:Value} {r s:Rat} {k m:Nat} (ha:RtIn w va r k) (hb:RtIn w vb s m) (hk:2≤k) (hm:2≤m) (hkm:k+m≤900000):Calls Tryz.prog 62 #[va,vb] w fun e w'=>∃v,e=.returned v∧RtIn w' v (r*s) (k+m)∧Below w.heap.size w w':=by
 obtain ⟨qa,⟨na1,ma1,na2,ma2,rfl,hna,hda,hqa⟩,hqda⟩:=ha
 obtain ⟨qb,⟨nb1,mb1,nb2,mb2,rfl,hnb,hdb,hqb⟩,hqdb⟩:=hb
 obtain ⟨wa,hwa⟩:∃wa,wa=((w.alloc (.cells #[.bool na1,ma1,.bool na2,ma2] 47)).alloc (.cells #[.bool nb1,mb1,.bool nb2,mb2] 47)).alloc (.cells #[.bool false,.slice none 0 0,.bool false,.slice none 0 0] 47):=⟨_,rfl⟩
 obtain ⟨ba,hba⟩:∃b,b=w.heap.size:=⟨_,rfl⟩
 obtain ⟨bb,hbb⟩:∃b,b=w.heap.size+1:=⟨_,rfl⟩
 obtain ⟨bz,hbz⟩:∃b,b=w.heap.size+2:=⟨_,rfl⟩
 have hal:Below w.heap.size w wa:=by rw[hwa]; exact (((ZR _ w).alloc (Nat.le_refl _) _).alloc (by simp) _).alloc (by simp; omega) _
 obtain ⟨k0,k1,k2⟩:=three_made w #[.bool na1,ma1,.bool na2,ma2] #[.bool nb1,mb1,.bool nb2,mb2] #[.bool false,.slice none 0 0,.bool false,.slice none 0 0] 47 47 47
 rw[←hwa,←hba] at k0
 rw[←hwa,←hbb] at k1
 rw[←hwa,←hbz] at k2
 have HBba:=ZH k0
 have HBbb:=ZH k1
 have HBbz:=ZH k2
 have HAL:=ZH hal
 have HW0:=ZH (ZR wa.heap.size wa)
 have HW:=ZH (ZN hwa (ZN hba (ZN hbb hbz)))
 have HGbz:=ZH (show w.heap.size≤bz by omega)
 have HRa:=ZH (show RtIn wa (.agg #[.bool na1,ma1,.bool na2,ma2]) r k from ⟨qa,⟨_,_,_,_,rfl,hna.below hal,hda.below hal,hqa⟩,hqda⟩)
 have HNa:=ZH (hna.below hal)
 clear hna hda hqa hqda
 have HRb:=ZH (show RtIn wa (.agg #[.bool nb1,mb1,.bool nb2,mb2]) s m from ⟨qb,⟨_,_,_,_,rfl,hnb.below hal,hdb.below hal,hqb⟩,hqdb⟩)
 have HNb:=ZH (hnb.below hal)
 clear hnb hdb hqb hqdb
 clear hal hwa hba hbb hbz k0 k1 k2
 go_enter Tryz.func62,Tryz.ntmps62
 go_upto_region 1 with fail
 rw[←HW.out.1,←HW.out.2.2.2,←HW.out.2.2.1,←HW.out.2.1]
 clear HW
 refine wp_region_seq [0,1,2,3,4,5] 6 (fun i v w'=>match i with
  | 0=>v=.agg #[.bool na1,ma1,.bool na2,ma2]
  | 1=>v=.bool (isInt r)
  | 2=>v=.bool (isInt r)
  | 3=>(isInt r)=true→v=.agg #[.bool nb1,mb1,.bool nb2,mb2]
  | 4=>(isInt r)=true→v=.bool (isInt s)
  | _=>v=.bool ((isInt r)&&(isInt s))) rfl rfl (by kernel_rfl) (by kernel_rfl) ?st ?steps ?fin
 case st=>
  intro i v w1 w2 h hb
  match i with
  | 0 | 1 | 2 | 3 | 4 | _+5=>exact h
 case steps=>
  refine Steps.cons (Step.of rfl ?s0) (Steps.cons (Step.of rfl ?s1) (Steps.cons (Step.of rfl ?s2) (Steps.cons (Step.of rfl ?s3) (Steps.cons (Step.of rfl ?s4) (Steps.cons (Step.of rfl ?s5) Steps.nil)))))
  case s0=>
   intro xs w' hb hT K hK
   clear hT
   simp only[zLd,zLe,putAll,zAp,zLa,zLb,zLc,Nat.reduceAdd,zNz] at hK⊢
   have hw:=Flow.hwP HW0.out hb
   have kb:=(hw.block ba (ZL HBba.out)).trans HBba.out
   have y0:=ZI kb 0
   have y1:=ZI kb 1
   have y2:=ZI kb 2
   have y3:=ZI kb 3
   clear kb
   simp at y0 y1 y2 y3
   go_simp
   exact hK _ _ (ZR _ _) rfl
  case s1=>
   intro xs w' hb hT K hK
   have h0:(xs 0)=.agg #[.bool na1,ma1,.bool na2,ma2]:=hT 0 (by kernel_rfl)
   clear hT
   simp only[zLd,zLe,putAll,zAp,zLa,zLb,zLc,Nat.reduceAdd,zNz] at hK⊢
   have hw:=Flow.hwP HW0.out hb
   (try simp only[h0] at hK)
   go_simp
   go_at_call 78
   refine (rwhole_any (HRa.out.below hw)).mono ?_
   rintro e w3 ⟨rfl,hb3⟩
   exact hK _ _ hb3 rfl
  case s2=>
   intro xs w' hb hT K hK
   have h1:(xs 1)=.bool (isInt r):=hT 1 (by kernel_rfl)
   clear hT
   simp only[zLd,zLe,putAll,zAp,zLa,zLb,zLc,Nat.reduceAdd,zNz] at hK⊢
   have hw:=Flow.hwP HW0.out hb
   (try simp only[h1] at hK)
   go_simp
   exact hK _ _ (ZR _ _) rfl
  case s3=>
   intro xs w' hb hT K hK
   have h2:(xs 2)=.bool (isInt r):=hT 2 (by kernel_rfl)
   clear hT
   simp only[zLd,zLe,putAll,zAp,zLa,zLb,zLc,Nat.reduceAdd,zNz] at hK⊢
   have hw:=Flow.hwP HW0.out hb
   by_cases hg:(isInt r)=true
   ·rw[hg] at h2
    have kb:=(hw.block bb (ZL HBbb.out)).trans HBbb.out
    have y0:=ZI kb 0
    have y1:=ZI kb 1
    have y2:=ZI kb 2
    have y3:=ZI kb 3
    clear kb
    simp at y0 y1 y2 y3
    (try simp only[h2] at hK)
    go_simp
    exact hK _ _ (ZR _ _) (fun _=>rfl)
   ·have hg':(isInt r)=false:=by simpa using hg
    rw[hg'] at h2
    (try simp only[h2] at hK)
    go_simp
    exact hK _ _ (ZR _ _) (fun h=>absurd h hg)
  case s4=>
   intro xs w' hb hT K hK
   have h2:(xs 2)=.bool (isInt r):=hT 2 (by kernel_rfl)
   have h3:(isInt r)=true→(xs 3)=.agg #[.bool nb1,mb1,.bool nb2,mb2]:=hT 3 (by kernel_rfl)
   clear hT
   simp only[zLd,zLe,putAll,zAp,zLa,zLb,zLc,Nat.reduceAdd,zNz] at hK⊢
   have hw:=Flow.hwP HW0.out hb
   by_cases hg:(isInt r)=true
   ·rw[hg] at h2
    replace h3:=h3 hg
    (try simp only[h2] at hK)
    (try simp only[h3] at hK)
    go_simp
    go_at_call 78
    refine (rwhole_any (HRb.out.below hw)).mono ?_
    rintro e w3 ⟨rfl,hb3⟩
    exact hK _ _ hb3 (fun _=>rfl)
   ·have hg':(isInt r)=false:=by simpa using hg
    rw[hg'] at h2
    (try simp only[h2] at hK)
    clear h3
    go_simp
    exact hK _ _ (ZR _ _) (fun h=>absurd h hg)
  case s5=>
   intro xs w' hb hT K hK
   have h2:(xs 2)=.bool (isInt r):=hT 2 (by kernel_rfl)
   have h4:(isInt r)=true→(xs 4)=.bool (isInt s):=hT 4 (by kernel_rfl)
   clear hT
   simp only[zLd,zLe,putAll,zAp,zLa,zLb,zLc,Nat.reduceAdd,zNz] at hK⊢
   have hw:=Flow.hwP HW0.out hb
   by_cases hg:(isInt r)=true
   ·rw[hg] at h2
    replace h4:=h4 hg
    (try simp only[h2] at hK)
    (try simp only[h4] at hK)
    go_simp
    exact hK _ _ (ZR _ _) (by simp[ hg])
   ·have hg':(isInt r)=false:=by simpa using hg
    rw[hg'] at h2
    clear h4
    (try simp only[h2] at hK)
    go_simp
    exact hK _ _ (ZR _ _) (by simp[ hg'])
 case fin=>
  intro xs w' hb hT
  have hw:=Flow.hwP HW0.out hb
  have h5:(xs 5)=.bool ((isInt r)&&(isInt s)):=hT 5 (by omega)
  clear hT
  simp only[zLd,zLe,putAll,zAp,zLa,zLb,zLc,Nat.reduceAdd,zNz,List.drop_succ_cons,List.drop_zero]
  by_cases hc:(isInt r&&isInt s)=true
  ·rw[hc] at h5
   simp only[h5]
   clear h5
   refine wpList_nil ?_
   obtain ⟨w1,e1⟩:∃w1,w1=w':=⟨_,rfl⟩
   rw[←e1] at hw⊢
   have HW1:=ZH hw
   clear hb hw e1
   have HC:=ZH (mul_ints hc)
   clear hc
   go_upto_region 2 with fail
   refine wp_region_seq [0,1,2,3,4,5] 6 (fun i v w'=>match i with
    | 0=>v=.pointer (some ⟨ba,0,none⟩)
    | 1=>v=.agg #[.bool na1,ma1]
    | 2=>v=.pointer (some ⟨bb,0,none⟩)
    | 3=>v=.agg #[.bool nb1,mb1]
    | 4=>IntIn w' v (r.num*s.num) (k+m)
    | _=>RtIn w' v (r*s) (k+m)) rfl rfl (by kernel_rfl) (by kernel_rfl) ?st ?steps ?fin
   case st=>
    intro i v w1 w2 h hb
    match i with
    | 0 | 1 | 2 | 3=>exact h
    | 4=>exact (show IntIn w1 v (r.num*s.num) (k+m) from h).below hb
    | _+5=>exact (show RtIn w1 v (r*s) (k+m) from h).below hb
   case steps=>
    refine Steps.cons (Step.of rfl ?s0) (Steps.cons (Step.of rfl ?s1) (Steps.cons (Step.of rfl ?s2) (Steps.cons (Step.of rfl ?s3) (Steps.cons (Step.of rfl ?s4) (Steps.cons (Step.of rfl ?s5) Steps.nil)))))
    case s0 | s2=>
     intro xs w' hb hT K hK
     clear hT
     simp only[zLd,zLe,putAll,zAp,zLa,zLb,zLc,Nat.reduceAdd,zNz] at hK⊢
     have hw:=Flow.hwP HW1.out hb
     go_simp
     exact hK _ _ (ZR _ _) rfl
    case s1=>
     intro xs w' hb hT K hK
     have h0:(xs 0)=.pointer (some ⟨ba,0,none⟩):=hT 0 (by kernel_rfl)
     clear hT
     simp only[zLd,zLe,putAll,zAp,zLa,zLb,zLc,Nat.reduceAdd,zNz] at hK⊢
     have hw:=Flow.hwP HW1.out hb
     have kb:=(hw.block ba (ZL HBba.out)).trans HBba.out
     have y0:=ZI kb 0
     have y1:=ZI kb 1
     clear kb
     simp at y0 y1
     (try simp only[h0] at hK)
     go_simp
     exact hK _ _ (ZR _ _) rfl
    case s3=>
     intro xs w' hb hT K hK
     have h2:(xs 2)=.pointer (some ⟨bb,0,none⟩):=hT 2 (by kernel_rfl)
     clear hT
     simp only[zLd,zLe,putAll,zAp,zLa,zLb,zLc,Nat.reduceAdd,zNz] at hK⊢
     have hw:=Flow.hwP HW1.out hb
     have kb:=(hw.block bb (ZL HBbb.out)).trans HBbb.out
     have y0:=ZI kb 0
     have y1:=ZI kb 1
     clear kb
     simp at y0 y1
     (try simp only[h2] at hK)
     go_simp
     exact hK _ _ (ZR _ _) rfl
    case s4=>
     intro xs w' hb hT K hK
     have h1:(xs 1)=.agg #[.bool na1,ma1]:=hT 1 (by kernel_rfl)
     have h3:(xs 3)=.agg #[.bool nb1,mb1]:=hT 3 (by kernel_rfl)
     clear hT
     simp only[zLd,zLe,putAll,zAp,zLa,zLb,zLc,Nat.reduceAdd,zNz] at hK⊢
     have hw:=Flow.hwP HW1.out hb
     (try simp only[h1] at hK)
     (try simp only[h3] at hK)
     go_simp
     go_at_call 101
     refine (Mul_any (HNa.out.below hw) (HNb.out.below hw) hkm).mono ?_
     rintro e w3 ⟨v3,rfl,hi3,hb3⟩
     exact hK _ _ hb3 hi3
    case s5=>
     intro xs w' hb hT K hK
     have h4:IntIn w' (xs 4) (r.num*s.num) (k+m):=hT 4 (by kernel_rfl)
     clear hT
     simp only[zLd,zLe,putAll,zAp,zLa,zLb,zLc,Nat.reduceAdd,zNz] at hK⊢
     have hw:=Flow.hwP HW1.out hb
     obtain ⟨s1,a1,c1,l1,e1,hr⟩:=rt_of_int h4
     rw[←HC.out] at hr
     (try simp only[e1] at hK)
     go_simp
     exact hK _ _ (ZR _ _) hr
   case fin=>
    intro xs w' hb hT
    have hw:=Flow.hwP HW1.out hb
    have h5:RtIn w' (xs 5) (r*s) (k+m):=hT 5 (by omega)
    clear hT
    simp only[zLd,zLe,putAll,zAp,zLa,zLb,zLc,Nat.reduceAdd,zNz,List.drop_succ_cons,List.drop_zero]
    obtain ⟨s1,a1,c1,l1,s2,a2,c2,l2,e4⟩:=rt_shape h5
    rw[e4] at h5
    simp only[e4]
    have kz:=(hw.block bz (ZL HBbz.out)).trans HBbz.out
    have z0:=ZI kz 0
    have z1:=ZI kz 1
    have z2:=ZI kz 2
    have z3:=ZI kz 3
    have f0:=ZF kz 0
    have f1:=ZF kz 1
    have f2:=ZF kz 2
    have f3:=ZF kz 3
    simp at z0 z1 z2 z3
    have hi:=h5.store4 kz (.bool s1) (.slice a1 c1 l1) (.bool s2) (.slice a2 c2 l2)
    have hbf:=((((HAL.out.trans (hw.mono HAL.out.size)).setCell (p:=⟨bz,0,none⟩) HGbz.out (.bool s1)).setCell (p:=⟨bz,1,none⟩) HGbz.out (.slice a1 c1 l1)).setCell (p:=⟨bz,2,none⟩) HGbz.out (.bool s2)).setCell (p:=⟨bz,3,none⟩) HGbz.out (.slice a2 c2 l2)
    have HF:=ZH (ZN hi hbf)
    clear hi hbf h5 e4 kz hb hw
    go_wp2_with fail
    exact bodyPost_ret (v:=.agg #[.bool s1,.slice a1 c1 l1,.bool s2,.slice a2 c2 l2]) (by simp[results,Tryz.results62,go_sem,z0,z1,z2,z3]) rfl ⟨_,rfl,HF.out⟩
  ·have hc':(isInt r&&isInt s)=false:=by simpa using hc
   rw[hc'] at h5
   simp only[h5]
   clear h5
   refine wpList_nil ?_
   obtain ⟨w1,e1⟩:∃w1,w1=w':=⟨_,rfl⟩
   rw[←e1] at hw⊢
   have HW1:=ZH hw
   clear hb hw e1
   clear hc hc'
   go_upto_region 3 with fail
   refine wp_region_flow [0,1,2,3,4,5,6,7,8,9,10] 11 (fun i v w'=>match i with
    | 0=>v=.pointer (some ⟨ba,0,none⟩)
    | 1=>v=.agg #[.bool na1,ma1]
    | 2=>v=.pointer (some ⟨bb,0,none⟩)
    | 3=>v=.agg #[.bool nb1,mb1]
    | 4=>IntIn w' v (r.num*s.num) (k+m)
    | 5=>v=.agg #[.bool na1,ma1,.bool na2,ma2]
    | 6=>IntIn w' v r.den k
    | 7=>v=.agg #[.bool nb1,mb1,.bool nb2,mb2]
    | 8=>IntIn w' v s.den m
    | 9=>IntIn w' v (r.den*s.den) (k+m)
    | _=>RtIn w' v (r*s) (k+m)) rfl rfl (by kernel_rfl) (by kernel_rfl) ?st ?steps ?fin
   case st=>
    intro i v w1 w2 h hb
    match i with
    | 0 | 1 | 2 | 3 | 5 | 7=>exact h
    | 4=>exact (show IntIn w1 v (r.num*s.num) (k+m) from h).below hb
    | 6=>exact (show IntIn w1 v r.den k from h).below hb
    | 8=>exact (show IntIn w1 v s.den m from h).below hb
    | 9=>exact (show IntIn w1 v (r.den*s.den) (k+m) from h).below hb
    | _+10=>exact (show RtIn w1 v (r*s) (k+m) from h).below hb
   case steps=>
    refine Steps.cons (Step.of rfl ?s0) (Steps.cons (Step.of rfl ?s1) (Steps.cons (Step.of rfl ?s2) (Steps.cons (Step.of rfl ?s3) (Steps.cons (Step.of rfl ?s4) (Steps.cons (Step.of rfl ?s5) (Steps.cons (Step.of rfl ?s6) (Steps.cons (Step.of rfl ?s7) (Steps.cons (Step.of rfl ?s8) (Steps.cons (Step.of rfl ?s9) (Steps.cons (Step.of rfl ?s10) Steps.nil))))))))))
    case s0 | s2=>
     intro xs w' hb hT K hK
     clear hT
     simp only[zLd,zLe,putAll,zAp,zLa,zLb,zLc,Nat.reduceAdd,zNz] at hK⊢
     have hw:=Flow.hwD HW1.out hb
     go_simp
     exact hK _ _ (ZR _ _) rfl
    case s1=>
     intro xs w' hb hT K hK
     have h0:(xs 0)=.pointer (some ⟨ba,0,none⟩):=hT 0 (by kernel_rfl)
     clear hT
     simp only[zLd,zLe,putAll,zAp,zLa,zLb,zLc,Nat.reduceAdd,zNz] at hK⊢
     have hw:=Flow.hwD HW1.out hb
     have kb:=(hw.block ba (ZL HBba.out)).trans HBba.out
     have y0:=ZI kb 0
     have y1:=ZI kb 1
     clear kb
     simp at y0 y1
     (try simp only[h0] at hK)
     go_simp
     exact hK _ _ (ZR _ _) rfl
    case s3=>
     intro xs w' hb hT K hK
     have h2:(xs 2)=.pointer (some ⟨bb,0,none⟩):=hT 2 (by kernel_rfl)
     clear hT
     simp only[zLd,zLe,putAll,zAp,zLa,zLb,zLc,Nat.reduceAdd,zNz] at hK⊢
     have hw:=Flow.hwD HW1.out hb
     have kb:=(hw.block bb (ZL HBbb.out)).trans HBbb.out
     have y0:=ZI kb 0
     have y1:=ZI kb 1
     clear kb
     simp at y0 y1
     (try simp only[h2] at hK)
     go_simp
     exact hK _ _ (ZR _ _) rfl
    case s4=>
     intro xs w' hb hT K hK
     have h1:(xs 1)=.agg #[.bool na1,ma1]:=hT 1 (by kernel_rfl)
     have h3:(xs 3)=.agg #[.bool nb1,mb1]:=hT 3 (by kernel_rfl)
     clear hT
     simp only[zLd,zLe,putAll,zAp,zLa,zLb,zLc,Nat.reduceAdd,zNz] at hK⊢
     have hw:=Flow.hwD HW1.out hb
     (try simp only[h1] at hK)
     (try simp only[h3] at hK)
     go_simp
     go_at_call 101
     refine (Mul_any (HNa.out.below hw) (HNb.out.below hw) hkm).mono ?_
     rintro e w3 ⟨v3,rfl,hi3,hb3⟩
     exact hK _ _ hb3 hi3
    case s5=>
     intro xs w' hb hT K hK
     clear hT
     simp only[zLd,zLe,putAll,zAp,zLa,zLb,zLc,Nat.reduceAdd,zNz] at hK⊢
     have hw:=Flow.hwD HW1.out hb
     have kb:=(hw.block ba (ZL HBba.out)).trans HBba.out
     have y0:=ZI kb 0
     have y1:=ZI kb 1
     have y2:=ZI kb 2
     have y3:=ZI kb 3
     clear kb
     simp at y0 y1 y2 y3
     go_simp
     exact hK _ _ (ZR _ _) rfl
    case s6=>
     intro xs w' hb hT K hK
     have h5:(xs 5)=.agg #[.bool na1,ma1,.bool na2,ma2]:=hT 5 (by kernel_rfl)
     clear hT
     simp only[zLd,zLe,putAll,zAp,zLa,zLb,zLc,Nat.reduceAdd,zNz] at hK⊢
     have hw:=Flow.hwD HW1.out hb
     (try simp only[h5] at hK)
     go_simp
     go_at_call 102
     refine (Den_any (HRa.out.below hw) hk).mono ?_
     rintro e w3 ⟨v3,rfl,hi3,hb3⟩
     exact hK _ _ hb3 hi3
    case s7=>
     intro xs w' hb hT K hK
     clear hT
     simp only[zLd,zLe,putAll,zAp,zLa,zLb,zLc,Nat.reduceAdd,zNz] at hK⊢
     have hw:=Flow.hwD HW1.out hb
     have kb:=(hw.block bb (ZL HBbb.out)).trans HBbb.out
     have y0:=ZI kb 0
     have y1:=ZI kb 1
     have y2:=ZI kb 2
     have y3:=ZI kb 3
     clear kb
     simp at y0 y1 y2 y3
     go_simp
     exact hK _ _ (ZR _ _) rfl
    case s8=>
     intro xs w' hb hT K hK
     have h7:(xs 7)=.agg #[.bool nb1,mb1,.bool nb2,mb2]:=hT 7 (by kernel_rfl)
     clear hT
     simp only[zLd,zLe,putAll,zAp,zLa,zLb,zLc,Nat.reduceAdd,zNz] at hK⊢
     have hw:=Flow.hwD HW1.out hb
     (try simp only[h7] at hK)
     go_simp
     go_at_call 102
     refine (Den_any (HRb.out.below hw) hm).mono ?_
     rintro e w3 ⟨v3,rfl,hi3,hb3⟩
     exact hK _ _ hb3 hi3
    case s9=>
     intro xs w' hb hT K hK
     have h6:IntIn w' (xs 6) r.den k:=hT 6 (by kernel_rfl)
     have h8:IntIn w' (xs 8) s.den m:=hT 8 (by kernel_rfl)
     clear hT
     simp only[zLd,zLe,putAll,zAp,zLa,zLb,zLc,Nat.reduceAdd,zNz] at hK⊢
     have hw:=Flow.hwD HW1.out hb
     go_simp
     go_at_call 101
     refine (Mul_any h6 h8 hkm).mono ?_
     rintro e w3 ⟨v3,rfl,hi3,hb3⟩
     exact hK _ _ hb3 hi3
    case s10=>
     intro xs w' hb hT K hK
     have h4:IntIn w' (xs 4) (r.num*s.num) (k+m):=hT 4 (by kernel_rfl)
     have h9:IntIn w' (xs 9) (r.den*s.den) (k+m):=hT 9 (by kernel_rfl)
     clear hT
     simp only[zLd,zLe,putAll,zAp,zLa,zLb,zLc,Nat.reduceAdd,zNz] at hK⊢
     have hw:=Flow.hwD HW1.out hb
     go_simp
     go_at_call 100
     refine (reduced_any h4 h9 (den_pos r s) hkm).mono ?_
     rintro e w3 ⟨v3,rfl,hi3,hb3⟩
     exact hK _ _ hb3 (by rw[←mul_is] at hi3; exact hi3)
   case fin=>
    intro xs w' hb hT
    have hw:=Flow.hwD HW1.out hb
    have h10:RtIn w' (xs 10) (r*s) (k+m):=hT 10 (by omega)
    clear hT
    simp only[zLd,zLe,putAll,zAp,zLa,zLb,zLc,Nat.reduceAdd,zNz]
    obtain ⟨s1,a1,c1,l1,s2,a2,c2,l2,e4⟩:=rt_shape h10
    rw[e4] at h10
    simp only[e4]
    have kz:=(hw.block bz (ZL HBbz.out)).trans HBbz.out
    have z0:=ZI kz 0
    have z1:=ZI kz 1
    have z2:=ZI kz 2
    have z3:=ZI kz 3
    have f0:=ZF kz 0
    have f1:=ZF kz 1
    have f2:=ZF kz 2
    have f3:=ZF kz 3
    simp at z0 z1 z2 z3
    have hi:=h10.store4 kz (.bool s1) (.slice a1 c1 l1) (.bool s2) (.slice a2 c2 l2)
    have hbf:=((((HAL.out.trans (hw.mono HAL.out.size)).setCell (p:=⟨bz,0,none⟩) HGbz.out (.bool s1)).setCell (p:=⟨bz,1,none⟩) HGbz.out (.slice a1 c1 l1)).setCell (p:=⟨bz,2,none⟩) HGbz.out (.bool s2)).setCell (p:=⟨bz,3,none⟩) HGbz.out (.slice a2 c2 l2)
    have HF:=ZH (ZN hi hbf)
    clear hi hbf h10 e4 kz hb hw
    refine wpAny_ready (rs:=[11]) (by kernel_rfl) (by simp) (AllReady.cons rfl (fun K hK=>?_) AllReady.nil)
    go_simp
    refine hK _ _ ?_
    clear hK K
    refine wpAny_done (by kernel_rfl) ?_ _
    go_wp2_with fail
    exact bodyPost_ret (v:=.agg #[.bool s1,.slice a1 c1 l1,.bool s2,.slice a2 c2 l2]) (by simp[results,Tryz.results62,go_sem,z0,z1,z2,z3]) rfl ⟨_,rfl,HF.out⟩
end Go.Proofs.YtdcaaehapdhckaaGreatDoor
