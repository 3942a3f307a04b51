/- slices.EqualFunc at expressions; dimension.Equal of any two expressions. -/
import Derived.Test.YtdcaaehapdhckaaGreatDoorEA
import Derived.Test.YtdcaaehapdhckaaGreatDoorK6
set_option linter.unusedSimpArgs false
set_option linter.unusedVariables false
set_option maxRecDepth 100000
namespace Go.Proofs.YtdcaaehapdhckaaGreatDoor
open Go.RowKit Go.Num Go.Flow
set_option maxHeartbeats 8000000
set_option linter.unusedVariables false

theorem sEqFE_any {l m:List Ex} (ih:∀j,j<l.length→j<m.length→∀(w:World) (vx vy:Value),ExIn w (l.getD j Ex.none) vx→ExIn w (m.getD j Ex.none) vy→Calls Tryz.prog 27 #[vx,vy] w fun e w'=>e=.returned (.bool (sameE (l.getD j Ex.none) (m.getD j Ex.none)))∧Below w.heap.size w w')
  {w:World} {v1 v2:Value} (h1:ExsIn w v1 l) (h2:ExsIn w v2 m):Calls Tryz.prog 66 #[v1,v2,.func (.func 27) #[] #[]] w fun e w'=>e=.returned (.bool (sameL l m))∧Below w.heap.size w w':=by
 obtain ⟨a1,k1,rfl,p1,p2,p3⟩:=h1
 obtain ⟨a2,k2,rfl,q1,q2,q3⟩:=h2
 obtain ⟨n,hn⟩:∃n,n=l.length:=⟨_,rfl⟩
 obtain ⟨k,hk⟩:∃n,n=m.length:=⟨_,rfl⟩
 obtain ⟨R,hR⟩:∃x,x=sameL l m:=⟨_,rfl⟩
 unfold maxLen at p2 q2
 rw[←hn] at p1 p3⊢
 rw[←hk] at q1 q3⊢
 rw[←hR]
 have P3:=ZH p3
 have Q3:=ZH q3
 have HR:=ZH hR
 have HN:=ZH (ZN hn hk)
 have HIH:=ZH ih
 clear p3 q3 hR hn hk ih
 go_enter Tryz.func66,Tryz.ntmps66
 by_cases hnk:n=k
 ·subst hnk
  have e0:((n:Int) != (n:Int))=false:=by simp
  go_wp2_with fail
  clear e0
  go_loopg [17] n (fun gk v wr=>∃i:Nat,i+gk=n∧v=.int .i64 i∧Hid (∀j,j<i→sameE (l.getD j Ex.none) (m.getD j Ex.none)=true)∧Hid (Below w.heap.size w wr))
  case atStart=>exact ⟨0,by omega,rfl,ZH (fun j hj=>absurd hj (by omega)),ZH (ZR _ _)⟩
  case round=>
   obtain ⟨j,hjn,rfl,hall,hbw⟩:=hrel
   by_cases hlt:j<n
   ·have e1:((j:Int)<(n:Int))=True:=eq_true (by omega)
    obtain ⟨g1,o1,rfl,-,hc1⟩:=P3.out (by omega)
    obtain ⟨g2,o2,rfl,-,hc2⟩:=Q3.out (by omega)
    have hj1:j<l.length:=by have:=HN.out.1; omega
    have hj2:j<m.length:=by have:=HN.out.2; omega
    obtain ⟨utv,ua,uc,c0,c1',c2',c3,c4,htk,hak⟩:=hc1.at (j:=j) hj1
    obtain ⟨vtv,va,vc,d0,d1',d2',d3,d4,htl,hal'⟩:=hc2.at (j:=j) hj2
    have hihk:=HIH.out j hj1 hj2
    obtain ⟨X,hX⟩:∃X,X=l.getD j Ex.none:=⟨_,rfl⟩
    obtain ⟨Y,hY⟩:∃Y,Y=m.getD j Ex.none:=⟨_,rfl⟩
    obtain ⟨q,hq⟩:∃q,q=sameE X Y:=⟨_,rfl⟩
    rw[←hX] at c0 c1' c3 c4 htk hak hihk
    rw[←hY] at d0 d1' d3 d4 htl hal' hihk
    rw[←hq] at hihk
    obtain ⟨uta,utc,rfl,-⟩:=id htk
    obtain ⟨uo,hox2⟩:∃q,q=X.op:=⟨_,rfl⟩
    obtain ⟨us0,hsx2⟩:∃s:ByteArray,s=⟨X.c.toArray⟩:=⟨_,rfl⟩
    obtain ⟨us1,hfx2⟩:∃s:ByteArray,s=⟨X.f.toArray⟩:=⟨_,rfl⟩
    obtain ⟨utn,htn2⟩:∃q,q=X.t.length:=⟨_,rfl⟩
    obtain ⟨uan,han2⟩:∃q,q=X.a.length:=⟨_,rfl⟩
    have hxx:=ExIn.of htk hak
    rw[←hox2,←hsx2,←hfx2,←htn2,←han2] at hxx
    rw[←hox2] at c0
    rw[←hsx2] at c1'
    rw[←htn2] at c2'
    rw[←hfx2] at c3
    rw[←han2] at c4
    obtain ⟨vta,vtc,rfl,-⟩:=id htl
    obtain ⟨vo,hoy2⟩:∃q,q=Y.op:=⟨_,rfl⟩
    obtain ⟨vs0,hsy2⟩:∃s:ByteArray,s=⟨Y.c.toArray⟩:=⟨_,rfl⟩
    obtain ⟨vs1,hfy2⟩:∃s:ByteArray,s=⟨Y.f.toArray⟩:=⟨_,rfl⟩
    obtain ⟨vtn,hvn2⟩:∃q,q=Y.t.length:=⟨_,rfl⟩
    obtain ⟨van,hbn2⟩:∃q,q=Y.a.length:=⟨_,rfl⟩
    have hyy:=ExIn.of htl hal'
    rw[←hoy2,←hsy2,←hfy2,←hvn2,←hbn2] at hyy
    rw[←hoy2] at d0
    rw[←hsy2] at d1'
    rw[←hvn2] at d2'
    rw[←hfy2] at d3
    rw[←hbn2] at d4
    have x0:=ZJ hbw.out c0
    have x1:=ZJ hbw.out c1'
    have x2:=ZJ hbw.out c2'
    have x3:=ZJ hbw.out c3
    have x4:=ZJ hbw.out c4
    have HCY:=ZH (ZN (ZJ hbw.out d0) (ZN (ZJ hbw.out d1') (ZN (ZJ hbw.out d2') (ZN (ZJ hbw.out d3) (ZJ hbw.out d4)))))
    have HIK:=ZH (fun (W:World) (hW:Below wr.heap.size wr W)=>hihk W _ _ ((hxx.below hbw.out).below hW) ((hyy.below hbw.out).below hW))
    have HQ:=ZH (ZN hq (ZN hX hY))
    have HLT:=ZH (ZN hlt hjn)
    have HBW:=ZH hbw.out
    have HALL:=ZH hall.out
    have hi0:(0:Int)≤(j:Int):=by omega
    have hi1:(j:Int)<(n:Int):=by omega
    clear c0 c1' c2' c3 c4 d0 d1' d2' d3 d4 htk hak htl hal' hihk hq hX hY hxx hyy hlt hjn hbw hall hj1 hj2 hc1 hc2 hox2 hoy2 hsx2 hsy2 hfx2 hfy2 htn2 hvn2 han2 hbn2
    go_upto_region 6 with fail
    obtain ⟨w4,b8,hw4,hb8,hl4,k8⟩:=new_box wr #[.int .i64 uo,.string us0,.slice uta utn utc,.string us1,.slice ua uan uc] 30
    rw[←hw4,←hb8]
    have y0:=ZJ hl4 HCY.out.1
    have y1:=ZJ hl4 HCY.out.2.1
    have y2:=ZJ hl4 HCY.out.2.2.1
    have y3:=ZJ hl4 HCY.out.2.2.2.1
    have y4:=ZJ hl4 HCY.out.2.2.2.2
    have HL4:=ZH (ZN hl4 k8)
    clear hw4 hb8 hl4 k8 x0 x1 x2 x3 x4
    go_upto_region 7 with fail
    obtain ⟨w5,b9,hw5,hb9,hl5,k9⟩:=new_box w4 #[.int .i64 vo,.string vs0,.slice vta vtn vtc,.string vs1,.slice va van vc] 30
    rw[←hw5,←hb9]
    obtain ⟨z0,z1,z2,z3,z4⟩:=cells5 hl5 HL4.out.2
    obtain ⟨s0,s1,s2,s3,s4⟩:=cells5 (ZR _ w5) k9
    have h45:=HL4.out.1.trans (hl5.mono HL4.out.1.size)
    have HC:=ZH (HIK.out w5 h45)
    have HB5:=ZH (HBW.out.trans (h45.mono HBW.out.size))
    clear hw5 hb9 hl5 k9 h45 y0 y1 y2 y3 y4 HL4 HCY HIK
    go_wp2_with fail
    refine HC.out.mono ?_
    rintro e w6 ⟨rfl,hb6⟩
    have HB6:=ZH (HB5.out.trans (hb6.mono HB5.out.size))
    clear hb6 z0 z1 z2 z3 z4 s0 s1 s2 s3 s4 HC HB5
    cases q with
    | true=>
     have HNX:=ZH (show ∀i,i<j+1→sameE (l.getD i Ex.none) (m.getD i Ex.none)=true from fun i hi=>by
      by_cases h:i<j
      ·exact HALL.out i h
      ·obtain rfl:i=j:=by omega
       rw[←HQ.out.2.1,←HQ.out.2.2,←HQ.out.1])
     go_wp2_with fail
     go_roundg (n-(j+1))
     case measure=>have:=HLT.out; omega
     case rel=>exact ⟨j+1,by have:=HLT.out; omega,by first | (congr 1; done) | (congr 1; exact IntWalk.wrap64_in ((j:Int)+1) (by have:=HLT.out; omega)),HNX,HB6⟩
    | false=>
     have hR:R=false:=by
      cases hR2:R with
      | false=>rfl
      | true=>
       have h1:=(sameL_at (by rw[←HN.out.1,←HN.out.2])).1 (HR.out.symm.trans hR2) j (by have h2:=HLT.out; have h3:=HN.out.1; omega)
       rw[←HQ.out.2.1,←HQ.out.2.2,←HQ.out.1] at h1
       cases h1
     subst hR
     go_wp2_with fail
     go_ret
     exact ⟨rfl,HB6.out⟩
   ·have e1:((j:Int)<(n:Int))=False:=eq_false (by omega)
    obtain rfl:j=n:=by omega
    have hR:R=true:=by
     rw[HR.out]
     exact (sameL_at (by rw[←HN.out.1,←HN.out.2])).2 fun i hi=>hall.out i (by rw[HN.out.1]; exact hi)
    have HB:=ZH hbw.out
    clear hall hbw hlt hjn
    subst hR
    go_wp2_with fail
    go_ret
    exact ⟨rfl,HB.out⟩
 ·have e0:((n:Int) != (k:Int))=true:=by simp; omega
  have hR:R=false:=by
   rw[HR.out,sameL_off (by rw[←HN.out.1,←HN.out.2]; exact hnk)]
  subst hR
  go_wp2_with fail
  go_ret
  exact ⟨rfl,ZR _ _⟩
theorem mEqual_step (x y:Ex) (ih:∀j,j<x.a.length→j<y.a.length→∀(w:World) (vx vy:Value),ExIn w (x.a.getD j Ex.none) vx→ExIn w (y.a.getD j Ex.none) vy→Calls Tryz.prog 27 #[vx,vy] w fun e w'=>e=.returned (.bool (sameE (x.a.getD j Ex.none) (y.a.getD j Ex.none)))∧Below w.heap.size w w')
  {w:World} {vx vy:Value} (hx:ExIn w x vx) (hy:ExIn w y vy) (hsm:x.t.length≤1000000):Calls Tryz.prog 27 #[vx,vy] w fun e w'=>e=.returned (.bool (sameE x y))∧Below w.heap.size w w':=by
 obtain ⟨tx,ax,cx,rfl,htx,hax⟩:=hx.out
 obtain ⟨ty,ay,cy,rfl,hty,hay⟩:=hy.out
 have hsame:sameE x y=((x.op==y.op)&&((x.f==y.f)&&((x.c==y.c)&&(decide (x.t=y.t)&&sameL x.a y.a)))):=by cases x; cases y; rw[sameE]; rfl
 have hsq:=fun (W:World) (hW:Below w.heap.size w W)=>sEqFE_any ih (hax.below hW) (hay.below hW)
 obtain ⟨an,han⟩:∃q,q=x.a.length:=⟨_,rfl⟩
 obtain ⟨am,ham⟩:∃q,q=y.a.length:=⟨_,rfl⟩
 obtain ⟨RA,hRA⟩:∃q,q=sameL x.a y.a:=⟨_,rfl⟩
 rw[←hRA] at hsame
 simp only[←han,←ham,←hRA] at hsq
 rw[←han,←ham]
 obtain ⟨tax,tcx,rfl,-⟩:=id htx
 obtain ⟨tay,tcy,rfl,-⟩:=id hty
 obtain ⟨sx,hsx⟩:∃s:ByteArray,s=⟨x.c.toArray⟩:=⟨_,rfl⟩
 obtain ⟨sy,hsy⟩:∃s:ByteArray,s=⟨y.c.toArray⟩:=⟨_,rfl⟩
 obtain ⟨fx,hfx⟩:∃s:ByteArray,s=⟨x.f.toArray⟩:=⟨_,rfl⟩
 obtain ⟨fy,hfy⟩:∃s:ByteArray,s=⟨y.f.toArray⟩:=⟨_,rfl⟩
 obtain ⟨nx,hnx⟩:∃q,q=x.t.length:=⟨_,rfl⟩
 obtain ⟨ny,hny⟩:∃q,q=y.t.length:=⟨_,rfl⟩
 rw[←hnx] at htx⊢
 rw[←hny] at hty⊢
 rw[←hsx,←hsy,←hfx,←hfy]
 obtain ⟨ox,hox⟩:∃q,q=x.op:=⟨_,rfl⟩
 obtain ⟨oy,hoy⟩:∃q,q=y.op:=⟨_,rfl⟩
 rw[←hox,←hoy]
 obtain ⟨wa,bx,by',hwa,hbx,hby,hal,k0,k1⟩:=new_two w #[.int .i64 ox,.string sx,.slice tax nx tcx,.string fx,.slice ax an cx] #[.int .i64 oy,.string sy,.slice tay ny tcy,.string fy,.slice ay am cy] 30 30
 have e2:(fx.toList==fy.toList)=(x.f==y.f):=by rw[hfx,hfy,toArray_list,toArray_list]
 have e3:(sx.toList==sy.toList)=(x.c==y.c):=by rw[hsx,hsy,toArray_list,toArray_list]
 have HE:=ZH (show sameE x y=((ox==oy)&&((fx.toList==fy.toList)&&((sx.toList==sy.toList)&&(decide (x.t=y.t)&&RA)))) by rw[e2,e3,hox,hoy]; exact hsame)
 obtain ⟨R,hR⟩:∃q,q=decide (x.t=y.t):=⟨_,rfl⟩
 have HT:=ZH (show ∀W,Below wa.heap.size wa W→Calls Tryz.prog 65 #[.slice tax nx tcx,.slice tay ny tcy] W fun e w'=>e=.returned (.bool R)∧Below W.heap.size W w' from fun W hb=>by
  rw[hR]
  exact sEqTZ_any ((htx.below hal).below hb) ((hty.below hal).below hb) hsm)
 rw[←hR] at HE
 obtain ⟨ANS,hANS⟩:∃q,q=sameE x y:=⟨_,rfl⟩
 rw[←hANS] at HE⊢
 have HSQ:=ZH (fun (W:World) (hW:Below wa.heap.size wa W)=>hsq W (hal.trans (hW.mono hal.size)))
 have HAL:=ZH hal
 have HK:=ZH (ZN k0 k1)
 have HW:=ZH (ZN hwa (ZN hbx hby))
 obtain ⟨x0,x1,x2,x3,x4⟩:=cells5 (ZR _ wa) k0
 obtain ⟨y0,y1,y2,y3,y4⟩:=cells5 (ZR _ wa) k1
 clear hwa hbx hby hal k0 k1 htx hty hnx hny hsx hsy hfx hfy hox hoy e2 e3 hR hx hy hsm hANS hax hay han ham hRA hsame hsq ih
 go_enter Tryz.func27,Tryz.ntmps27
 go_upto_region 1 with fail
 rw[←HW.out.1,←HW.out.2.2,←HW.out.2.1]
 clear HW
 cases q1:(ox==oy) with
 | false=>
  have HA:=ZH (show ANS=false by rw[HE.out,q1]; rfl)
  go_wp2_with fail
  go_ret
  exact ⟨by rw[HA.out]; rfl,HAL.out⟩
 | true=>
  cases q2:(fx.toList==fy.toList) with
  | false=>
   have HA:=ZH (show ANS=false by rw[HE.out,q1,q2]; rfl)
   go_wp2_with fail
   go_ret
   exact ⟨by rw[HA.out]; rfl,HAL.out⟩
  | true=>
   cases q3:(sx.toList==sy.toList) with
   | false=>
    have HA:=ZH (show ANS=false by rw[HE.out,q1,q2,q3]; rfl)
    go_wp2_with fail
    go_ret
    exact ⟨by rw[HA.out]; rfl,HAL.out⟩
   | true=>
    have HA:=ZH (show ANS=(R&&RA) by rw[HE.out,q1,q2,q3]; rfl)
    have HT0:=ZH (HT.out wa (ZR _ _))
    go_wp2_with fail
    refine HT0.out.mono ?_
    rintro e w3 ⟨rfl,hb3⟩
    cases R with
    | false=>
     have HB:=ZH (HAL.out.trans (hb3.mono HAL.out.size))
     clear hb3
     go_wp2_with fail
     go_ret
     exact ⟨by rw[HA.out]; rfl,HB.out⟩
    | true=>
     obtain ⟨x0,x1,x2,x3,x4⟩:=cells5 hb3 HK.out.1
     obtain ⟨y0,y1,y2,y3,y4⟩:=cells5 hb3 HK.out.2
     have HB:=ZH (HAL.out.trans (hb3.mono HAL.out.size))
     have HSQ0:=ZH (HSQ.out w3 hb3)
     clear hb3
     go_wp2_with fail
     refine HSQ0.out.mono ?_
     rintro e w4 ⟨rfl,hb4⟩
     have HB4:=ZH (HB.out.trans (hb4.mono HB.out.size))
     clear hb4
     go_wp2_with fail
     go_ret
     exact ⟨by rw[HA.out]; rfl,HB4.out⟩
theorem mEqual_any : ∀(k:Nat) (x y:Ex),depE x≤k→TermsE 1000000 x→∀(w:World) (vx vy:Value),ExIn w x vx→ExIn w y vy→Calls Tryz.prog 27 #[vx,vy] w fun e w'=>e=.returned (.bool (sameE x y))∧Below w.heap.size w w'
 | 0,x,y,hd,_,w,vx,vy,hx,hy=>by rw[depE_eq] at hd; omega
 | k+1,x,y,hd,ht,w,vx,vy,hx,hy=>by
  have ht2:=(termsE_eq x).1 ht
  exact mEqual_step x y (fun j h1 h2 w vx vy hx hy=>mEqual_any k _ _ (by have h3:=depL_at h1; rw[depE_eq] at hd; omega) (termsL_at ht2.2 h1) w vx vy hx hy) hx hy ht2.1
end Go.Proofs.YtdcaaehapdhckaaGreatDoor

