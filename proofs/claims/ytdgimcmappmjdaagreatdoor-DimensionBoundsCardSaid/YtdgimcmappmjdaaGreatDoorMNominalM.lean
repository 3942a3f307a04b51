/- dimension.Nominal; the law's equal. -/
import Derived.Test.YtdgimcmappmjdaaGreatDoorRRowM
import Derived.Test.YtdgimcmappmjdaaGreatDoorKD
import Derived.Test.YtdgimcmappmjdaaGreatDoorKY
import Derived.Test.YtdgimcmappmjdaaGreatDoorKZ
import Derived.Test.YtdgimcmappmjdaaGreatDoorKW
set_option linter.unusedSimpArgs false
set_option linter.unusedVariables false
set_option maxRecDepth 100000
namespace Go.Proofs.YtdgimcmappmjdaaGreatDoor
open Go.RowKit Go.Num Go.Flow
set_option maxHeartbeats 8000000
set_option linter.unusedVariables false

theorem pequal_any {w:World} {va vb:Value} {r s:Rat} {k m:Nat} (ha:RtIn w va r k) (hb:RtIn w vb s m) (hk:2≤k) (hm:2≤m) (hkm:k+m≤900000):Calls Tryz.prog 22 #[va,vb] w fun e w'=>e=.returned (.bool (decide (cmpQ r s=0)))∧Below w.heap.size w w':=by
 obtain ⟨s1,a1,c1,l1,s2,a2,c2,l2,rfl⟩:=rt_shape ha
 obtain ⟨s3,a3,c3,l3,s4,a4,c4,l4,rfl⟩:=rt_shape hb
 obtain ⟨wa,ba,bb,hwa,hba,hbb,hal,k0,k1⟩:=new_two w #[.bool s1,.slice a1 c1 l1,.bool s2,.slice a2 c2 l2] #[.bool s3,.slice a3 c3 l3,.bool s4,.slice a4 c4 l4] 43 43
 have HW:=ZH (ZN hwa (ZN hba hbb))
 have HK:=ZH (ZN k0 k1)
 have HAL:=ZH hal
 have HC:=ZH (ratCompare_any (ha.below hal) (hb.below hal) hk hm hkm)
 clear hwa hba hbb hal k0 k1 ha hb
 go_enter Tryz.func22,Tryz.ntmps22
 go_upto_region 1 with fail
 rw[←HW.out.1,←HW.out.2.2,←HW.out.2.1]
 clear HW
 obtain ⟨x0,x1,x2,x3⟩:=cells4 (ZR _ wa) HK.out.1
 obtain ⟨y0,y1,y2,y3⟩:=cells4 (ZR _ wa) HK.out.2
 go_wp2_with fail
 refine HC.out.mono ?_
 rintro e w1 ⟨rfl,hb1⟩
 obtain ⟨C,hC⟩:∃x,x=cmpQ r s:=⟨_,rfl⟩
 rw[←hC]
 have HF:=ZH (HAL.out.trans (hb1.mono HAL.out.size))
 have HCC:=ZH hC
 clear hb1 hC x0 x1 x2 x3 y0 y1 y2 y3
 go_wp2_with fail
 go_ret
 exact ⟨by rw[←HCC.out]; rfl,HF.out⟩
end Go.Proofs.YtdgimcmappmjdaaGreatDoor

