/- Rationals: Div. -/
import Derived.Test.YtdcaaehapdhckaaGreatDoorKE
import Derived.Test.YtdcaaehapdhckaaGreatDoorFlow2M
import Derived.Test.YtdcaaehapdhckaaGreatDoorKH
import Derived.Deep.LoopGhost
set_option linter.unusedSimpArgs false
set_option linter.unusedVariables false
set_option maxRecDepth 100000
namespace Go.Proofs.YtdcaaehapdhckaaGreatDoor
open List renaming setIfInBounds_toArray → zLa, set_cons_zero → zLb, set_cons_succ → zLc, take_succ_cons → zLd, take_zero → zLe
open Act renaming put → zAp
open Nat renaming zero_add → zNz
open FlowR renaming putSel → zFp
open Flow.Steps renaming cons → zSc, nil → zSn
open FlowR.Step renaming of → zSo
open Go.RowKit Go.Num Go.Flow
set_option maxHeartbeats 8000000
set_option linter.unusedVariables false

theorem cmp_eqz {z:Int}:(cmpI z 0==0)=decide (z=0):=by
 unfold cmpI
 split
 ·next h=>rw[ZU (by omega)]; rfl
 ·split
  ·next h=>rw[ZU (by omega)]; rfl
  ·rw[ZT (by omega)]; rfl
def divErr (s:Rat):Int:=if s.num=0 then 19 else 0
theorem ratDiv_any {w:World} {va vb:Value} {r s:Rat} {k m:Nat} (ha:RtIn w va r k) (hb:RtIn w vb s m) (hk:2≤k) (hm:2≤m) (hkm:k+m≤900000):Calls Tryz.prog 67 #[va,vb] w fun e w'=>∃v,e=.returned (.tuple #[v,.int .i64 (divErr s)])∧RtIn w' v (r/s) (k+m)∧Below w.heap.size w w':=by
 obtain ⟨qa,⟨na1,ma1,na2,ma2,rfl,hna,hda,hqa⟩,hqda⟩:=ha
 obtain ⟨qb,⟨nb1,mb1,nb2,mb2,rfl,hnb,hdb,hqb⟩,hqdb⟩:=hb
 obtain ⟨wa,hwa⟩:∃wa,wa=((w.alloc (.cells #[.bool na1,ma1,.bool na2,ma2] 47)).alloc (.cells #[.bool nb1,mb1,.bool nb2,mb2] 47)).alloc (.cells #[.bool false,.slice none 0 0,.bool false,.slice none 0 0] 47):=⟨_,rfl⟩
 obtain ⟨ba,hba⟩:∃b,b=w.heap.size:=⟨_,rfl⟩
 obtain ⟨bb,hbb⟩:∃b,b=w.heap.size+1:=⟨_,rfl⟩
 obtain ⟨bz,hbz⟩:∃b,b=w.heap.size+2:=⟨_,rfl⟩
 have hal:Below w.heap.size w wa:=by rw[hwa]; exact (((ZR _ w).alloc (Nat.le_refl _) _).alloc (by simp) _).alloc (by simp; omega) _
 obtain ⟨k0,k1,k2⟩:=three_made w #[.bool na1,ma1,.bool na2,ma2] #[.bool nb1,mb1,.bool nb2,mb2] #[.bool false,.slice none 0 0,.bool false,.slice none 0 0] 47 47 47
 rw[←hwa,←hba] at k0
 rw[←hwa,←hbb] at k1
 rw[←hwa,←hbz] at k2
 have HBba:=ZH k0
 have HBbb:=ZH k1
 have HBbz:=ZH k2
 have HAL:=ZH hal
 have HW0:=ZH (ZR wa.heap.size wa)
 have HW:=ZH (ZN hwa (ZN hba (ZN hbb hbz)))
 have HGbz:=ZH (show w.heap.size≤bz by omega)
 have HRa:=ZH (show RtIn wa (.agg #[.bool na1,ma1,.bool na2,ma2]) r k from ⟨qa,⟨_,_,_,_,rfl,hna.below hal,hda.below hal,hqa⟩,hqda⟩)
 have HNa:=ZH (hna.below hal)
 clear hna hda hqa hqda
 have HRb:=ZH (show RtIn wa (.agg #[.bool nb1,mb1,.bool nb2,mb2]) s m from ⟨qb,⟨_,_,_,_,rfl,hnb.below hal,hdb.below hal,hqb⟩,hqdb⟩)
 have HNb:=ZH (hnb.below hal)
 clear hnb hdb hqb hqdb
 clear hal hwa hba hbb hbz k0 k1 k2
 go_enter Tryz.func67,Tryz.ntmps67
 go_upto_region 1 with fail
 rw[←HW.out.1,←HW.out.2.2.2,←HW.out.2.2.1,←HW.out.2.1]
 clear HW
 refine wp_region_seq [0,1,2] 3 (fun i v w'=>match i with
  | 0=>v=.agg #[.bool nb1,mb1,.bool nb2,mb2]
  | 1=>v=.int .i64 (cmpI s.num 0)
  | _=>v=.bool (decide (s.num=0))) rfl rfl (by kernel_rfl) (by kernel_rfl) ?st ?steps ?fin
 case st=>
  intro i v w1 w2 h hb
  match i with
  | 0 | 1 | _+2=>exact h
 case steps=>
  refine Steps.cons (Step.of rfl ?s0) (Steps.cons (Step.of rfl ?s1) (Steps.cons (Step.of rfl ?s2) Steps.nil))
  case s0=>
   intro xs w' hb hT K hK
   clear hT
   simp only[zLd,zLe,putAll,zAp,zLa,zLb,zLc,Nat.reduceAdd,zNz] at hK⊢
   have hw:=Flow.hwP HW0.out hb
   have kb:=(hw.block bb (ZL HBbb.out)).trans HBbb.out
   have y0:=ZI kb 0
   have y1:=ZI kb 1
   have y2:=ZI kb 2
   have y3:=ZI kb 3
   clear kb
   simp at y0 y1 y2 y3
   go_simp
   exact hK _ _ (ZR _ _) rfl
  case s1=>
   intro xs w' hb hT K hK
   have h0:(xs 0)=.agg #[.bool nb1,mb1,.bool nb2,mb2]:=hT 0 (by kernel_rfl)
   clear hT
   simp only[zLd,zLe,putAll,zAp,zLa,zLb,zLc,Nat.reduceAdd,zNz] at hK⊢
   have hw:=Flow.hwP HW0.out hb
   (try simp only[h0] at hK)
   go_simp
   go_at_call 42
   refine (ratSign_any (HRb.out.below hw)).mono ?_
   rintro e w3 ⟨rfl,hb3⟩
   exact hK _ _ hb3 rfl
  case s2=>
   intro xs w' hb hT K hK
   have h1:(xs 1)=.int .i64 (cmpI s.num 0):=hT 1 (by kernel_rfl)
   clear hT
   simp only[zLd,zLe,putAll,zAp,zLa,zLb,zLc,Nat.reduceAdd,zNz] at hK⊢
   have hw:=Flow.hwP HW0.out hb
   (try simp only[h1] at hK)
   go_simp
   exact hK _ _ (ZR _ _) (congrArg Value.bool cmp_eqz)
 case fin=>
  intro xs w' hb hT
  have hw:=Flow.hwP HW0.out hb
  have h2:(xs 2)=.bool (decide (s.num=0)):=hT 2 (by omega)
  clear hT
  simp only[zLd,zLe,putAll,zAp,zLa,zLb,zLc,Nat.reduceAdd,zNz,List.drop_succ_cons,List.drop_zero]
  by_cases hc:s.num=0
  ·rw[ZT hc] at h2
   simp only[h2]
   clear h2
   refine wpList_nil ?_
   obtain ⟨w1,e1⟩:∃w1,w1=w':=⟨_,rfl⟩
   rw[←e1] at hw⊢
   have HW1:=ZH hw
   clear hb hw e1
   have HC:=ZH (ZN (show divErr s=19 from if_pos hc) (show r/s=0 by rw[Rat.num_eq_zero.1 hc,Rat.div_def,Rat.inv_zero,Rat.mul_zero]))
   clear hc
   have kz:=(HW1.out.block bz (ZL HBbz.out)).trans HBbz.out
   have z0:=ZI kz 0
   have z1:=ZI kz 1
   have z2:=ZI kz 2
   have z3:=ZI kz 3
   have f0:=ZF kz 0
   have f1:=ZF kz 1
   have f2:=ZF kz 2
   have f3:=ZF kz 3
   simp at z0 z1 z2 z3
   have hr:=RtIn.store4 (rt_int ⟨_,_,_,_,rfl,int_nil w1 (k+m),int_nil w1 (k+m),by decide⟩) kz (.bool false) (.slice none 0 0) (.bool false) (.slice none 0 0)
   have hbf:=((((HAL.out.trans (HW1.out.mono HAL.out.size)).setCell (p:=⟨bz,0,none⟩) HGbz.out (.bool false)).setCell (p:=⟨bz,1,none⟩) HGbz.out (.slice none 0 0)).setCell (p:=⟨bz,2,none⟩) HGbz.out (.bool false)).setCell (p:=⟨bz,3,none⟩) HGbz.out (.slice none 0 0)
   have HF:=ZH (ZN hr hbf)
   clear hr hbf kz
   go_wp2_with fail
   exact bodyPost_ret (v:=.tuple #[.agg #[.bool false,.slice none 0 0,.bool false,.slice none 0 0],.int .i64 19]) (by simp[results,Tryz.results67,go_sem,z0,z1,z2,z3]) rfl ⟨_,by rw[HC.out.1],by rw[HC.out.2]; exact HF.out.1,HF.out.2⟩
  ·have hc':decide (s.num=0)=false:=ZU hc
   rw[hc'] at h2
   simp only[h2]
   clear h2
   refine wpList_nil ?_
   obtain ⟨w1,e1⟩:∃w1,w1=w':=⟨_,rfl⟩
   rw[←e1] at hw⊢
   have HW1:=ZH hw
   clear hb hw e1
   clear hc
   have hz:¬s.num=0:=by simpa using hc'
   have HC:=ZH (ZN (show divErr s=0 from if_neg hz) (show (r.den:Int)*s.num≠0 from Int.mul_ne_zero (by have:=r.den_nz; omega) hz))
   clear hc' hz
   go_upto_region 3 with fail
   refine FlowR.wp_region_sel (fun a b=>Below a.heap.size a b) (fun a=>ZR _ a) (fun _ _ _ h k=>h.trans (k.mono h.size)) [0,1,2,3,4,5,6,7,8,9,10] [false,false,false,false,false,false,false,false,false,false,false,false,false] [true,true,true,true,true,true,true,true,true,true,true,false,false] (fun i v w'=>match i with
    | 0=>v=.pointer (some ⟨ba,0,none⟩)
    | 1=>v=.agg #[.bool na1,ma1]
    | 2=>v=.agg #[.bool nb1,mb1,.bool nb2,mb2]
    | 3=>IntIn w' v s.den m
    | 4=>IntIn w' v (r.num*s.den) (k+m)
    | 5=>v=.agg #[.bool na1,ma1,.bool na2,ma2]
    | 6=>IntIn w' v r.den k
    | 7=>v=.pointer (some ⟨bb,0,none⟩)
    | 8=>v=.agg #[.bool nb1,mb1]
    | 9=>IntIn w' v (r.den*s.num) (k+m)
    | _=>RtIn w' v (r/s) (k+m)) rfl rfl (by kernel_rfl) (by kernel_rfl) (by kernel_rfl) (by kernel_rfl) ?st ?steps ?fin
   case st=>
    intro i v w1 w2 h hb
    match i with
    | 0 | 1 | 2 | 5 | 7 | 8=>exact h
    | 3=>exact (show IntIn w1 v s.den m from h).below hb
    | 4=>exact (show IntIn w1 v (r.num*s.den) (k+m) from h).below hb
    | 6=>exact (show IntIn w1 v r.den k from h).below hb
    | 9=>exact (show IntIn w1 v (r.den*s.num) (k+m) from h).below hb
    | 10 | _+11=>exact (show RtIn w1 v (r/s) (k+m) from h).below hb
   case steps=>
    refine zSc (zSo rfl ?s0) (zSc (zSo rfl ?s1) (zSc (zSo rfl ?s2) (zSc (zSo rfl ?s3) (zSc (zSo rfl ?s4) (zSc (zSo rfl ?s5) (zSc (zSo rfl ?s6) (zSc (zSo rfl ?s7) (zSc (zSo rfl ?s8) (zSc (zSo rfl ?s9) (zSc (zSo rfl ?s10) zSn))))))))))
    case s0 | s7=>
     intro xs w' hb hT K hK
     clear hT
     simp only[zFp,zAp,zLa,zLb,zLc,Nat.reduceAdd,zNz] at hK⊢
     have hw:=Flow.hwD HW1.out hb
     go_simp
     exact hK _ _ (ZR _ _) rfl
    case s1=>
     intro xs w' hb hT K hK
     have h0:(xs 0)=.pointer (some ⟨ba,0,none⟩):=hT 0 (by kernel_rfl)
     clear hT
     simp only[zFp,zAp,zLa,zLb,zLc,Nat.reduceAdd,zNz] at hK⊢
     have hw:=Flow.hwD HW1.out hb
     have kb:=(hw.block ba (ZL HBba.out)).trans HBba.out
     have y0:=ZI kb 0
     have y1:=ZI kb 1
     clear kb
     simp at y0 y1
     (try simp only[h0] at hK)
     go_simp
     exact hK _ _ (ZR _ _) rfl
    case s2=>
     intro xs w' hb hT K hK
     clear hT
     simp only[zFp,zAp,zLa,zLb,zLc,Nat.reduceAdd,zNz] at hK⊢
     have hw:=Flow.hwD HW1.out hb
     have kb:=(hw.block bb (ZL HBbb.out)).trans HBbb.out
     have y0:=ZI kb 0
     have y1:=ZI kb 1
     have y2:=ZI kb 2
     have y3:=ZI kb 3
     clear kb
     simp at y0 y1 y2 y3
     go_simp
     exact hK _ _ (ZR _ _) rfl
    case s3=>
     intro xs w' hb hT K hK
     have h2:(xs 2)=.agg #[.bool nb1,mb1,.bool nb2,mb2]:=hT 2 (by kernel_rfl)
     clear hT
     simp only[zFp,zAp,zLa,zLb,zLc,Nat.reduceAdd,zNz] at hK⊢
     have hw:=Flow.hwD HW1.out hb
     (try simp only[h2] at hK)
     go_simp
     go_at_call 102
     refine (Den_any (HRb.out.below hw) hm).mono ?_
     rintro e w3 ⟨v3,rfl,hi3,hb3⟩
     exact hK _ _ hb3 hi3
    case s4=>
     intro xs w' hb hT K hK
     have h1:(xs 1)=.agg #[.bool na1,ma1]:=hT 1 (by kernel_rfl)
     have h3:IntIn w' (xs 3) s.den m:=hT 3 (by kernel_rfl)
     clear hT
     simp only[zFp,zAp,zLa,zLb,zLc,Nat.reduceAdd,zNz] at hK⊢
     have hw:=Flow.hwD HW1.out hb
     (try simp only[h1] at hK)
     go_simp
     go_at_call 101
     refine (Mul_any (HNa.out.below hw) h3 hkm).mono ?_
     rintro e w3 ⟨v3,rfl,hi3,hb3⟩
     exact hK _ _ hb3 hi3
    case s5=>
     intro xs w' hb hT K hK
     clear hT
     simp only[zFp,zAp,zLa,zLb,zLc,Nat.reduceAdd,zNz] at hK⊢
     have hw:=Flow.hwD HW1.out hb
     have kb:=(hw.block ba (ZL HBba.out)).trans HBba.out
     have y0:=ZI kb 0
     have y1:=ZI kb 1
     have y2:=ZI kb 2
     have y3:=ZI kb 3
     clear kb
     simp at y0 y1 y2 y3
     go_simp
     exact hK _ _ (ZR _ _) rfl
    case s6=>
     intro xs w' hb hT K hK
     have h5:(xs 5)=.agg #[.bool na1,ma1,.bool na2,ma2]:=hT 5 (by kernel_rfl)
     clear hT
     simp only[zFp,zAp,zLa,zLb,zLc,Nat.reduceAdd,zNz] at hK⊢
     have hw:=Flow.hwD HW1.out hb
     (try simp only[h5] at hK)
     go_simp
     go_at_call 102
     refine (Den_any (HRa.out.below hw) hk).mono ?_
     rintro e w3 ⟨v3,rfl,hi3,hb3⟩
     exact hK _ _ hb3 hi3
    case s8=>
     intro xs w' hb hT K hK
     have h7:(xs 7)=.pointer (some ⟨bb,0,none⟩):=hT 7 (by kernel_rfl)
     clear hT
     simp only[zFp,zAp,zLa,zLb,zLc,Nat.reduceAdd,zNz] at hK⊢
     have hw:=Flow.hwD HW1.out hb
     have kb:=(hw.block bb (ZL HBbb.out)).trans HBbb.out
     have y0:=ZI kb 0
     have y1:=ZI kb 1
     clear kb
     simp at y0 y1
     (try simp only[h7] at hK)
     go_simp
     exact hK _ _ (ZR _ _) rfl
    case s9=>
     intro xs w' hb hT K hK
     have h6:IntIn w' (xs 6) r.den k:=hT 6 (by kernel_rfl)
     have h8:(xs 8)=.agg #[.bool nb1,mb1]:=hT 8 (by kernel_rfl)
     clear hT
     simp only[zFp,zAp,zLa,zLb,zLc,Nat.reduceAdd,zNz] at hK⊢
     have hw:=Flow.hwD HW1.out hb
     (try simp only[h8] at hK)
     go_simp
     go_at_call 101
     refine (Mul_any h6 (HNb.out.below hw) hkm).mono ?_
     rintro e w3 ⟨v3,rfl,hi3,hb3⟩
     exact hK _ _ hb3 hi3
    case s10=>
     intro xs w' hb hT K hK
     have h4:IntIn w' (xs 4) (r.num*s.den) (k+m):=hT 4 (by kernel_rfl)
     have h9:IntIn w' (xs 9) (r.den*s.num) (k+m):=hT 9 (by kernel_rfl)
     clear hT
     simp only[zFp,zAp,zLa,zLb,zLc,Nat.reduceAdd,zNz] at hK⊢
     have hw:=Flow.hwD HW1.out hb
     go_simp
     go_at_call 100
     refine (reduced_any h4 h9 HC.out.2 hkm).mono ?_
     rintro e w3 ⟨v3,rfl,hi3,hb3⟩
     exact hK _ _ hb3 (by rw[←div_is] at hi3; exact hi3)
   case fin=>
    intro xs w' hb hT
    have hw:=Flow.hwD HW1.out hb
    have h10:RtIn w' (xs 10) (r/s) (k+m):=hT 10 (by rfl)
    clear hT
    simp only[zFp,zAp,zLa,zLb,zLc,Nat.reduceAdd,zNz,FlowR.restL,FlowR.orM,Bool.false_or]
    obtain ⟨s1,a1,c1,l1,s2,a2,c2,l2,e4⟩:=rt_shape h10
    rw[e4] at h10
    simp only[e4]
    have kz:=(hw.block bz (ZL HBbz.out)).trans HBbz.out
    have z0:=ZI kz 0
    have z1:=ZI kz 1
    have z2:=ZI kz 2
    have z3:=ZI kz 3
    have f0:=ZF kz 0
    have f1:=ZF kz 1
    have f2:=ZF kz 2
    have f3:=ZF kz 3
    simp at z0 z1 z2 z3
    have hi:=h10.store4 kz (.bool s1) (.slice a1 c1 l1) (.bool s2) (.slice a2 c2 l2)
    have hbf:=((((HAL.out.trans (hw.mono HAL.out.size)).setCell (p:=⟨bz,0,none⟩) HGbz.out (.bool s1)).setCell (p:=⟨bz,1,none⟩) HGbz.out (.slice a1 c1 l1)).setCell (p:=⟨bz,2,none⟩) HGbz.out (.bool s2)).setCell (p:=⟨bz,3,none⟩) HGbz.out (.slice a2 c2 l2)
    have HF:=ZH (ZN hi hbf)
    clear hi hbf h10 e4 kz hb hw
    go_wp2_with fail
    exact bodyPost_ret (v:=.tuple #[.agg #[.bool s1,.slice a1 c1 l1,.bool s2,.slice a2 c2 l2],.int .i64 0]) (by simp[results,Tryz.results67,go_sem,z0,z1,z2,z3]) rfl ⟨_,by rw[HC.out.1],HF.out⟩
def RatAt (w:World) (b o:Nat) (r:Rat) (K:Nat):Prop:=∃s1 a1 c1 l1 s2 a2 c2 l2,w.cell? ⟨b,o,none⟩=some (.bool s1)∧w.cell? ⟨b,o+1,none⟩=some (.slice a1 c1 l1)∧w.cell? ⟨b,o+2,none⟩=some (.bool s2)∧w.cell? ⟨b,o+3,none⟩=some (.slice a2 c2 l2)∧RtIn w (.agg #[.bool s1,.slice a1 c1 l1,.bool s2,.slice a2 c2 l2]) r K
theorem RatAt.below {w w':World} {b o:Nat} {r:Rat} {K:Nat} (h:RatAt w b o r K) (hb:Below w.heap.size w w'):RatAt w' b o r K:=by
 obtain ⟨s1,a1,c1,l1,s2,a2,c2,l2,h0,h1,h2,h3,h4⟩:=h
 exact ⟨s1,a1,c1,l1,s2,a2,c2,l2,ZJ hb h0,ZJ hb h1,ZJ hb h2,ZJ hb h3,h4.below hb⟩
def RatsAt (w:World) (ao:Option Addr) (c:Nat) (rs:List Rat) (K:Nat):Prop:=rs.length≤c∧c≤maxLen∧(0<rs.length→∃b off,ao=some ⟨b,off,none⟩∧b<w.heap.size∧∀j,j<rs.length→RatAt w b (off+j*4) (rs.getD j 0) K)
theorem RatsAt.below {w w':World} {ao:Option Addr} {c:Nat} {rs:List Rat} {K:Nat} (h:RatsAt w ao c rs K) (hb:Below w.heap.size w w'):RatsAt w' ao c rs K:=by
 refine ⟨h.1,h.2.1,fun h0=>?_⟩
 obtain ⟨b,off,e,hl,hc⟩:=h.2.2 h0
 exact ⟨b,off,e,Nat.lt_of_lt_of_le hl hb.size,fun j hj=>(hc j hj).below hb⟩
theorem RatsIn.at {w:World} {v:Value} {rs:List Rat} {K:Nat} (h:RatsIn w v rs K) (hl:rs.length≤100000):∃ao,v=.slice ao rs.length rs.length∧RatsAt w ao rs.length rs K:=by
 obtain ⟨g,n,rfl,rfl,cs,hg,hsz,-,hc⟩:=h
 refine ⟨_,rfl,Nat.le_refl _,by unfold maxLen; omega,fun _=>⟨g,0,rfl,ZL hg,fun j hj=>?_⟩⟩
 obtain ⟨c0,c1,c2,c3,h0,h1,h2,h3,hr⟩:=hc j hj
 obtain ⟨s1,a1,d1,l1,s2,a2,d2,l2,e⟩:=rt_shape hr
 simp at e
 obtain ⟨rfl,rfl,rfl,rfl⟩:=e
 exact ⟨s1,a1,d1,l1,s2,a2,d2,l2,by rw[ZI hg,Nat.zero_add]; exact h0,by rw[ZI hg,Nat.zero_add]; exact h1,by rw[ZI hg,Nat.zero_add]; exact h2,by rw[ZI hg,Nat.zero_add]; exact h3,hr⟩
def sumQ (l:List Rat):Rat:=l.foldl (fun a b=>a+b) 0
theorem sumQ_take {l:List Rat} {k:Nat} (h:k<l.length):sumQ (l.take (k+1))=sumQ (l.take k)+l.getD k 0:=by
 unfold sumQ
 rw[List.take_add_one,List.getElem?_eq_getElem h,List.foldl_append,List.getD_eq_getElem?_getD,List.getElem?_eq_getElem h]
 rfl
theorem four_set {w:World} {b:Nat} {x0 x1 x2 x3:Value} {t:TypeId} (h:w.heap[b]?=some (.cells #[x0,x1,x2,x3] t (0,0))) (u0 u1 u2 u3:Value):((((w.setCell ⟨b,0,none⟩ u0).setCell ⟨b,1,none⟩ u1).setCell ⟨b,2,none⟩ u2).setCell ⟨b,3,none⟩ u3).heap[b]?=some (.cells #[u0,u1,u2,u3] t (0,0)):=by
 simp[World.setCell,Array.getElem?_modify,h]
def NoDigAt (w:World) (b:Nat):Prop:=∀i x,w.cell? ⟨b,i,none⟩≠some (.int .u32 x)
theorem nodig4 {w:World} {b:Nat} {s1 s2:Bool} {a1 a2:Option Addr} {c1 l1 c2 l2:Nat} {t:TypeId} (h:w.heap[b]?=some (.cells #[.bool s1,.slice a1 c1 l1,.bool s2,.slice a2 c2 l2] t (0,0))):NoDigAt w b:=fun i x=>by
 rw[ZI h]
 match i with
 | 0=>simp
 | 1=>simp
 | 2=>simp
 | 3=>simp
 | i+4=>simp
structure But (b:Nat) (w w':World):Prop where
 size:w.heap.size≤w'.heap.size
 block:∀k,k≠b→k<w.heap.size→w'.heap[k]?=w.heap[k]?
theorem But.set {b:Nat} {w w':World} (h:But b w w') (i:Nat) (u:Value):But b w (w'.setCell ⟨b,i,none⟩ u):=⟨by simpa[World.setCell] using h.size,fun k hk hl=>(Below.heap_setCell _ _ _ _ hk).trans (h.block k hk hl)⟩
theorem But.refl (b:Nat) (w:World):But b w w:=⟨Nat.le_refl _,fun _ _ _=>rfl⟩
theorem But.set4 {b:Nat} (w:World) (u0 u1 u2 u3:Value):But b w ((((w.setCell ⟨b,0,none⟩ u0).setCell ⟨b,1,none⟩ u1).setCell ⟨b,2,none⟩ u2).setCell ⟨b,3,none⟩ u3):=((((But.refl b w).set 0 u0).set 1 u1).set 2 u2).set 3 u3
theorem MagIn.but {b:Nat} {w w':World} {v:Value} {l:List Nat} (h:MagIn w v l) (hn:NoDigAt w b) (hu:But b w w'):MagIn w' v l:=by
 obtain ⟨ao,c,e,h1,h2,h3,h4⟩:=h
 refine ⟨ao,c,e,h1,h2,h3,fun h0=>?_⟩
 obtain ⟨g,off,e2,hlt,hc⟩:=h4 h0
 have hg:g≠b:=by
  rintro rfl
  exact hn _ _ (hc 0 h0)
 exact ⟨g,off,e2,Nat.lt_of_lt_of_le hlt hu.size,fun j hj=>(World.cell?_of_block (a:=⟨g,off+j,none⟩) (hu.block g hg hlt)).trans (hc j hj)⟩
theorem RtIn.but {b:Nat} {w w':World} {v:Value} {r:Rat} {k:Nat} (h:RtIn w v r k) (hn:NoDigAt w b) (hu:But b w w'):RtIn w' v r k:=by
 obtain ⟨q,⟨n1,m1,n2,m2,e,⟨g1,s1,l1,e1,p1,r1⟩,⟨g2,s2,l2,e2,p2,r2⟩,h3⟩,h4⟩:=h
 exact ⟨q,⟨n1,m1,n2,m2,e,⟨g1,s1,l1,e1,p1.but hn hu,r1⟩,⟨g2,s2,l2,e2,p2.but hn hu,r2⟩,h3⟩,h4⟩
end Go.Proofs.YtdcaaehapdhckaaGreatDoor
