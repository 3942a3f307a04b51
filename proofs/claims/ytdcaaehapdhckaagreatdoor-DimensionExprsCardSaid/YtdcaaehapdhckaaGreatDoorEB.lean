/- The law's checkNumber. -/
import Derived.Test.YtdcaaehapdhckaaGreatDoorKZ
import Derived.Test.YtdcaaehapdhckaaGreatDoorKW
import Derived.Test.YtdcaaehapdhckaaGreatDoorK1
import Derived.Test.YtdcaaehapdhckaaGreatDoorKS
import Derived.Test.YtdcaaehapdhckaaGreatDoorKM
import Derived.Test.YtdcaaehapdhckaaGreatDoorEA
set_option linter.unusedSimpArgs false
set_option linter.unusedVariables false
set_option maxRecDepth 100000
namespace Go.Proofs.YtdcaaehapdhckaaGreatDoor
open Go.RowKit Go.Num Go.Flow
set_option maxHeartbeats 4000000
set_option linter.unusedVariables false

theorem pcheckNumber_any (s:ByteArray) (hs:s.size≤4294967280) {w:World} (hg:Glob w):Calls Tryz.prog 56 #[.string s] w fun e w'=>e=.returned (.int .i64 (readErr s.data.toList 400))∧Below w.heap.size w w':=by
 have hlen:s.data.toList.length=s.size:=by rw[Array.length_toList]; rfl
 by_cases h4:400<s.size
 ·have e1:((400:Int)<(s.size:Int))=True:=eq_true (by omega)
  have HE:=ZH (show readErr s.data.toList 400=5 by unfold readErr; rw[if_pos (by omega)])
  clear h4 hlen
  go_enter Tryz.func56,Tryz.ntmps56
  go_wp2_with fail
  go_ret
  exact ⟨by rw[HE.out]; rfl,ZR _ _⟩
 ·have e1:((400:Int)<(s.size:Int))=False:=eq_false (by omega)
  have HR:=ZH (Parse_any' s hs hg)
  clear h4 hlen
  go_enter Tryz.func56,Tryz.ntmps56
  go_wp2_with fail
  refine HR.out.mono ?_
  rintro e w1 ⟨v,rfl,hok,hno,hb1⟩
  obtain ⟨E,hE⟩:∃E,E=readErr s.data.toList 400:=⟨_,rfl⟩
  rw[←hE] at hok hno⊢
  have hv:∃s1 a1 c1 l1 s2 a2 c2 l2,v=.agg #[.bool s1,.slice a1 c1 l1,.bool s2,.slice a2 c2 l2]:=by
   by_cases h:E=0
   ·exact rt_shape (hok h)
   ·exact ⟨_,_,_,_,_,_,_,_,hno h⟩
  obtain ⟨s1,a1,c1,l1,s2,a2,c2,l2,rfl⟩:=hv
  obtain ⟨w2,b2,hw2,hb2,hl2,k2⟩:=new_box w1 #[.bool s1,.slice a1 c1 l1,.bool s2,.slice a2 c2 l2] 47
  have HF:=ZH (hb1.trans (hl2.mono hb1.size))
  have HW:=ZH hw2
  have HE:=ZH hE
  clear hok hno hb1 hb2 hl2 k2 hw2 hE
  go_upto_region 4 with fail
  rw[←HW.out]
  clear HW
  go_wp2_with fail
  go_ret
  exact ⟨by rw[←HE.out]; rfl,HF.out⟩
set_option maxHeartbeats 8000000
theorem pcheckForm_any {w:World} (hg:Glob w) {v:Value} {c:List UInt8} {L:List (Int×List UInt8)} (hf:FormZ w v c L) (hc:c.length≤4294967280) (ht:∀p,p∈L→p.2.length≤4294967280) (nv:Int) :
  Calls Tryz.prog 18 #[v,.int .i64 nv] w fun e w'=>e=.returned (.int .i64 (formErr c L nv))∧Below w.heap.size w w':=by
 obtain ⟨tv,rfl,ao,ca,rfl,hta,htb,htc⟩:=hf
 obtain ⟨n,hn⟩:∃n,n=L.length:=⟨_,rfl⟩
 obtain ⟨s,hs⟩:∃s:ByteArray,s=⟨c.toArray⟩:=⟨_,rfl⟩
 obtain ⟨wa,hwa⟩:∃wa,wa=w.alloc (.cells #[.string s,.slice ao n ca] 27):=⟨_,rfl⟩
 obtain ⟨bf,hbf⟩:∃b,b=w.heap.size:=⟨_,rfl⟩
 have hal:Below w.heap.size w wa:=by rw[hwa]; exact (ZR _ w).alloc (Nat.le_refl _) _
 have k0:wa.heap[bf]?=some (.cells #[.string s,.slice ao n ca] 27 (0,0)):=by rw[hwa,hbf]; exact ZW w _
 have hcap:n≤ca∧ca≤9223372036854775807:=by rw[hn]; exact ⟨hta,htb⟩
 have hnum:=pcheckNumber_any s (by
  have h1:s.size=c.length:=by rw[hs]; simp[ByteArray.size]
  omega) (hg.below hal)
 obtain ⟨E0,hE0⟩:∃x,x=readErr c 400:=⟨_,rfl⟩
 obtain ⟨FE,hFE⟩:∃x,x=formErr c L nv:=⟨_,rfl⟩
 rw[show s.data.toList=c by rw[hs],←hE0] at hnum
 have hFE2:FE=if nv<0∨64<nv then 2 else if E0≠0 then E0 else if 64<n then 6 else fstErr (stepErr nv L) n:=by rw[hFE,hE0,hn]; rfl
 rw[←hn,←hs,←hFE]
 have HNUM:=ZH hnum
 have HG:=ZH (hg.below hal)
 have HTC:=ZH htc
 have HT:=ZH ht
 have HAL:=ZH hal
 have HK0:=ZH k0
 have HN:=ZH hn
 have HFE:=ZH hFE2
 have HW:=ZH (ZN hwa hbf)
 have s0:=ZI k0 0
 have s1:=ZI k0 1
 simp at s0 s1
 clear hwa hbf hal k0 hg hta htb htc ht hc hs hnum hn hE0 hFE hFE2
 go_enter Tryz.func18,Tryz.ntmps18
 go_upto_region 1 with fail
 rw[←HW.out.1,←HW.out.2]
 clear HW
 by_cases h1:nv<0
 ·have e1:(nv<0)=True:=eq_true h1
  have HE:=ZH (show FE=2 by rw[HFE.out,if_pos (.inl h1)])
  clear h1
  go_wp2_with fail
  go_ret
  exact ⟨by first | (rw[HE.out]; done) | (rw[HE.out]; rfl),HAL.out⟩
 have e1:(nv<0)=False:=eq_false h1
 by_cases h2:64<nv
 ·have e2:(64<nv)=True:=eq_true h2
  have HE:=ZH (show FE=2 by rw[HFE.out,if_pos (.inr h2)])
  clear h1 h2
  go_wp2_with fail
  go_ret
  exact ⟨by first | (rw[HE.out]; done) | (rw[HE.out]; rfl),HAL.out⟩
 have e2:(64<nv)=False:=eq_false h2
 have HFE2:=ZH (show FE=if E0≠0 then E0 else if 64<n then 6 else fstErr (stepErr nv L) n by rw[HFE.out,if_neg (by omega)])
 clear h1 h2 HFE
 go_wp2_with fail
 refine HNUM.out.mono ?_
 rintro e w2 ⟨rfl,hb1⟩
 have HB2:=ZH hb1
 clear hb1 s0 s1
 have hkf:=(HB2.out.block bf (ZL HK0.out)).trans HK0.out
 have s0:=ZI hkf 0
 have s1:=ZI hkf 1
 simp at s0 s1
 clear hkf
 by_cases h3:E0=0
 ·have e3:(E0 != 0)=false:=by rw[h3]; rfl
  have HFE3:=ZH (show FE=if 64<n then 6 else fstErr (stepErr nv L) n by rw[HFE2.out,if_neg (by simp[h3])])
  clear h3 HFE2
  by_cases h4:64<n
  ·have e4:((64:Int)<(n:Int))=True:=eq_true (by omega)
   have HE:=ZH (show FE=6 by rw[HFE3.out,if_pos h4])
   clear h4
   go_wp2_with fail
   go_ret
   exact ⟨by first | (rw[HE.out]; done) | (rw[HE.out]; rfl),HAL.out.trans (HB2.out.mono HAL.out.size)⟩
  have e4:((64:Int)<(n:Int))=False:=eq_false (by omega)
  have HFE4:=ZH (show FE=fstErr (stepErr nv L) n by rw[HFE3.out,if_neg h4])
  have hn64:n≤64:=by omega
  clear h4 HFE3
  go_wp2_with fail
  clear s0 s1
  go_loopg [6] n (fun gk x wr=>∃k:Nat,k+gk=n∧x=.int .i64 k∧Hid (fstErr (stepErr nv L) k=0)∧Hid (Below wa.heap.size wa wr))
  case atStart=>exact ⟨0,by omega,rfl,ZH rfl,HB2⟩
  case round=>
   obtain ⟨k,hk,rfl,hz0,hbw⟩:=hrel
   have hkf:=(hbw.out.block bf (ZL HK0.out)).trans HK0.out
   have s0:=ZI hkf 0
   have s1:=ZI hkf 1
   simp at s0 s1
   clear hkf
   by_cases hlt:k<n
   ·have e5:((k:Int)<(n:Int))=True:=eq_true (by omega)
    obtain ⟨g,o,rfl,-,hcc⟩:=HTC.out (by have:=HN.out; omega)
    have hx:=hcc k (by have:=HN.out; omega)
    have hkL:k<L.length:=by have:=HN.out; omega
    have hsz:=HT.out (L.getD k (0,[])) (by rw[List.getD_eq_getElem?_getD,List.getElem?_eq_getElem hkL]; exact List.getElem_mem hkL)
    have hbw0:=HAL.out.trans (hbw.out.mono HAL.out.size)
    obtain ⟨tp,htp⟩:∃x,x=(L.getD (k-1) (0,[])).1:=⟨_,rfl⟩
    have hpx:0<k→wa.cell? ⟨g,o+(k-1)*2,none⟩=some (.int .i64 tp):=fun h0=>by
     rw[htp]
     exact ZJ HAL.out (hcc (k-1) (by have:=HN.out; omega)).1
    have hse:stepErr nv L k=if (L.getD k (0,[])).1<0∨nv≤(L.getD k (0,[])).1 then 2 else if 0<k∧(L.getD k (0,[])).1≤tp then 8
     else if readErr (L.getD k (0,[])).2 400≠0 then readErr (L.getD k (0,[])).2 400 else if readVal (L.getD k (0,[])).2=0 then 19 else 0:=by rw[htp]; rfl
    obtain ⟨⟨ti,tl⟩,htt⟩:∃x,x=L.getD k (0,[]):=⟨_,rfl⟩
    rw[←htt] at hx hsz hse
    simp only[] at hx hsz hse
    obtain ⟨E5,hE5⟩:∃x,x=readErr tl 400:=⟨_,rfl⟩
    rw[←hE5] at hse
    obtain ⟨tt,htx⟩:∃s:ByteArray,s=⟨tl.toArray⟩:=⟨_,rfl⟩
    rw[←htx] at hx
    have x0:=ZJ hbw0 hx.1
    have x1:=ZJ hbw0 hx.2
    have hnum:=fun (W:World) (hgW:Glob W)=>pcheckNumber_any tt (by
     have h1:tt.size=tl.length:=by rw[htx]; simp[ByteArray.size]
     omega) hgW
    simp only[show tt.data.toList=tl by rw[htx],←hE5] at hnum
    have hrat:=fun (W:World) (hgW:Glob W) (h0:E5=0)=>prat_any tt (by
     have h1:tt.size=tl.length:=by rw[htx]; simp[ByteArray.size]
     omega) hgW (by rw[show tt.data.toList=tl by rw[htx],←hE5]; exact h0)
    simp only[show tt.data.toList=tl by rw[htx]] at hrat
    have HRAT:=ZH hrat
    have hfe:stepErr nv L k≠0→FE=stepErr nv L k:=fun h=>by rw[HFE4.out]; exact fstErr_lt hlt hz0.out h
    have hnx:stepErr nv L k=0→fstErr (stepErr nv L) (k+1)=0:=fun h=>fstErr_next hz0.out h
    have HNUM2:=ZH hnum
    have HPX:=ZH hpx
    have HLT:=ZH hlt
    have HSE:=ZH (ZN hse (ZN hfe hnx))
    have hk0:(0:Int)≤(k:Int):=by omega
    have hk1:(k:Int)<(n:Int):=by omega
    clear hcc hx hbw0 htp hpx htt htx hnum hrat hlt hz0 hE5 hfe hnx hse hkL hsz
    go_upto_region 12 with fail
    clear s0 s1
    obtain ⟨w3,hw3⟩:∃x,x=wr.alloc (.cells #[.int .i64 ti,.string tt] 85):=⟨_,rfl⟩
    obtain ⟨bt,hbt⟩:∃b,b=wr.heap.size:=⟨_,rfl⟩
    rw[←hw3,←hbt]
    have hl3:Below wr.heap.size wr w3:=by rw[hw3]; exact (ZR _ wr).alloc (Nat.le_refl _) _
    have kt:w3.heap[bt]?=some (.cells #[.int .i64 ti,.string tt] 85 (0,0)):=by rw[hw3,hbt]; exact ZW wr _
    have HKT:=ZH kt
    have HB3:=ZH (hbw.out.trans (hl3.mono hbw.out.size))
    have y0:=ZI kt 0
    have y1:=ZI kt 1
    have kf:=(HB3.out.block bf (ZL HK0.out)).trans HK0.out
    have s0:=ZI kf 0
    have s1:=ZI kf 1
    simp at y0 y1 s0 s1
    clear hw3 hbt hl3 kt kf x0 x1 hbw
    by_cases h5:ti<0
    ·have e6:(ti<0)=True:=eq_true h5
     have HE:=ZH (show FE=2 by
      have h:=HSE.out.1
      rw[if_pos (.inl h5)] at h
      rw[HSE.out.2.1 (by rw[h]; decide),h])
     clear h5
     go_wp2_with fail
     go_ret
     exact ⟨by first | (rw[HE.out]; done) | (rw[HE.out]; rfl),HAL.out.trans (HB3.out.mono HAL.out.size)⟩
    have e6:(ti<0)=False:=eq_false h5
    by_cases h6:nv≤ti
    ·have e7:(nv≤ti)=True:=eq_true h6
     have HE:=ZH (show FE=2 by
      have h:=HSE.out.1
      rw[if_pos (.inr h6)] at h
      rw[HSE.out.2.1 (by rw[h]; decide),h])
     clear h5 h6
     go_wp2_with fail
     go_ret
     exact ⟨by first | (rw[HE.out]; done) | (rw[HE.out]; rfl),HAL.out.trans (HB3.out.mono HAL.out.size)⟩
    have e7:(nv≤ti)=False:=eq_false h6
    have HS2:=ZH (show stepErr nv L k=if 0<k∧ti≤tp then 8 else if E5≠0 then E5 else if readVal tl=0 then 19 else 0 by
     have h:=HSE.out.1
     rw[if_neg (by omega)] at h
     exact h)
    clear h5 h6
    go_upto_region 14 with fail
    rcases Nat.eq_zero_or_pos k with hkz | hkz
    ·have e8:((0:Int)<(k:Int))=False:=eq_false (by omega)
     have hs3:stepErr nv L k=if E5≠0 then E5 else if readVal tl=0 then 19 else 0:=by rw[HS2.out,if_neg (by omega)]
     have HST:=ZH (show E5=0→(readVal tl=0→FE=19)∧(readVal tl≠0→Hid (fstErr (stepErr nv L) (k+1)=0)) from fun h=>by
      rw[if_neg (by simp[h])] at hs3
      refine ⟨fun hz=>?_,fun hz=>?_⟩
      ·rw[if_pos hz] at hs3
       rw[HSE.out.2.1 (by rw[hs3]; decide),hs3]
      ·rw[if_neg hz] at hs3
       exact ZH (HSE.out.2.2 hs3))
     have HSN:=ZH (show E5≠0→FE=E5 from fun h=>by
      rw[if_pos h] at hs3
      rw[HSE.out.2.1 (by rw[hs3]; exact h),hs3])
     clear hs3
     go_quiet (fail)
     obtain ⟨w4,hw4⟩:∃x,x=w3.drewN nq:=⟨_,rfl⟩
     rw[←hw4]
     have hb34:Below w3.heap.size w3 w4:=by rw[hw4]; exact below_drawn w3 nq
     have HB4:=ZH (HB3.out.trans (hb34.mono HB3.out.size))
     have HB35:=ZH hb34
     have kt:=(hb34.block bt (ZL HKT.out)).trans HKT.out
     have y0:=ZI kt 0
     have y1:=ZI kt 1
     simp at y0 y1
     clear hw4 hb34 kt s0 s1
     go_wp2_with fail
     refine (HNUM2.out w4 (HG.out.below HB4.out)).mono ?_
     rintro e w5 ⟨rfl,hb5⟩
     have HB5:=ZH (HB4.out.trans (hb5.mono HB4.out.size))
     have hb35:=HB35.out.trans (hb5.mono HB35.out.size)
     have kt:=(hb35.block bt (ZL HKT.out)).trans HKT.out
     clear y0 y1
     have y0:=ZI kt 0
     have y1:=ZI kt 1
     simp at y0 y1
     clear hb5 hb35 kt
     by_cases hE5:E5=0
     ·have e10:(E5 != 0)=false:=by rw[hE5]; rfl
      have HRA:=ZH (HRAT.out w5 (HG.out.below HB5.out) hE5)
      have HSE:=ZH (HST.out hE5)
      clear hE5
      go_wp2_with fail
      refine HRA.out.mono ?_
      rintro e w6 ⟨v6,rfl,hv6,hb6⟩
      have HB6:=ZH (HB5.out.trans (hb6.mono HB5.out.size))
      have HR6:=ZH hv6
      clear hv6 hb6 y0 y1
      go_wp2_with fail
      refine (ratSign_any HR6.out).mono ?_
      rintro e w7 ⟨rfl,hb7⟩
      have HB7:=ZH (HB6.out.trans (hb7.mono HB6.out.size))
      obtain ⟨sg,hsg⟩:∃x,x=cmpI (readVal tl).num 0:=⟨_,rfl⟩
      rw[←hsg]
      clear hb7
      by_cases hz:(readVal tl).num=0
      ·have hs0:(sg==0)=true:=by rw[hsg,hz]; rfl
       have HER:=ZH (HSE.out.1 (Rat.num_eq_zero.1 hz))
       clear hsg hz
       go_wp2_with fail
       go_ret
       exact ⟨by first | (rw[HER.out]; done) | (rw[HER.out]; rfl),HAL.out.trans (HB7.out.mono HAL.out.size)⟩
      ·have hs0:(sg==0)=false:=by
        rw[ZQ,hsg]
        unfold cmpI
        split
        ·decide
        ·split
         ·decide
         ·omega
       have HNX:=ZH (HSE.out.2 (fun h=>hz (by rw[h]; rfl)))
       clear hsg hz
       go_wp2_with fail
       go_roundg (n-(k+1))
       case measure=>have:=HLT.out; omega
       case rel=>exact ⟨k+1,by have:=HLT.out; omega,by first | (congr 1; done) | (subst hkz; rfl) | (congr 1; exact IntWalk.wrap64_in ((k:Int)+1) (by have:=HLT.out; omega)),HNX,HB7⟩
     ·have e10:(E5 != 0)=true:=by simp[hE5]
      have HER:=ZH (HSN.out hE5)
      clear hE5
      go_wp2_with fail
      go_ret
      exact ⟨by first | (rw[HER.out]; done) | (rw[HER.out]; rfl),HAL.out.trans (HB5.out.mono HAL.out.size)⟩
    ·have e8:((0:Int)<(k:Int))=True:=eq_true (by omega)
     obtain ⟨m,hm⟩:∃m,m=k-1:=⟨_,rfl⟩
     have hpx:=HPX.out hkz
     rw[←hm] at hpx
     have x2:=ZJ HB3.out hpx
     have e9:wrap64 ((k:Int)-1)=(m:Int):=by rw[show (k:Int)-1=(m:Int) by omega]; exact IntWalk.wrap64_in _ (by omega)
     have e9':IntKind.i64.wrap ((k:Int)-1)=(m:Int):=by rw[show (k:Int)-1=(m:Int) by omega]; exact IntWalk.i64_in _ (by omega)
     have hm0:(0:Int)≤(m:Int):=by omega
     have hm1:(m:Int)<(n:Int):=by omega
     clear hpx hm
     by_cases h7:ti≤tp
     ·have e11:(ti≤tp)=True:=eq_true h7
      have HE:=ZH (show FE=8 by
       have h:=HS2.out
       rw[if_pos ⟨hkz,h7⟩] at h
       rw[HSE.out.2.1 (by rw[h]; decide),h])
      clear h7
      go_quiet (fail)
      obtain ⟨w4,hw4⟩:∃x,x=w3.drewN nq:=⟨_,rfl⟩
      rw[←hw4]
      have hb34:Below w3.heap.size w3 w4:=by rw[hw4]; exact below_drawn w3 nq
      have HB4:=ZH (HB3.out.trans (hb34.mono HB3.out.size))
      clear hw4 hb34
      go_wp2_with fail
      go_ret
      exact ⟨by first | (rw[HE.out]; done) | (rw[HE.out]; rfl),HAL.out.trans (HB4.out.mono HAL.out.size)⟩
     have e11:(ti≤tp)=False:=eq_false h7
     have hs3:stepErr nv L k=if E5≠0 then E5 else if readVal tl=0 then 19 else 0:=by rw[HS2.out,if_neg (by omega)]
     have HST:=ZH (show E5=0→(readVal tl=0→FE=19)∧(readVal tl≠0→Hid (fstErr (stepErr nv L) (k+1)=0)) from fun h=>by
      rw[if_neg (by simp[h])] at hs3
      refine ⟨fun hz=>?_,fun hz=>?_⟩
      ·rw[if_pos hz] at hs3
       rw[HSE.out.2.1 (by rw[hs3]; decide),hs3]
      ·rw[if_neg hz] at hs3
       exact ZH (HSE.out.2.2 hs3))
     have HSN:=ZH (show E5≠0→FE=E5 from fun h=>by
      rw[if_pos h] at hs3
      rw[HSE.out.2.1 (by rw[hs3]; exact h),hs3])
     clear hs3 h7
     go_quiet (fail)
     obtain ⟨w4,hw4⟩:∃x,x=w3.drewN nq:=⟨_,rfl⟩
     rw[←hw4]
     have hb34:Below w3.heap.size w3 w4:=by rw[hw4]; exact below_drawn w3 nq
     have HB4:=ZH (HB3.out.trans (hb34.mono HB3.out.size))
     have HB35:=ZH hb34
     have kt:=(hb34.block bt (ZL HKT.out)).trans HKT.out
     have y0:=ZI kt 0
     have y1:=ZI kt 1
     simp at y0 y1
     clear hw4 hb34 kt s0 s1
     go_wp2_with fail
     refine (HNUM2.out w4 (HG.out.below HB4.out)).mono ?_
     rintro e w5 ⟨rfl,hb5⟩
     have HB5:=ZH (HB4.out.trans (hb5.mono HB4.out.size))
     have hb35:=HB35.out.trans (hb5.mono HB35.out.size)
     have kt:=(hb35.block bt (ZL HKT.out)).trans HKT.out
     clear y0 y1
     have y0:=ZI kt 0
     have y1:=ZI kt 1
     simp at y0 y1
     clear hb5 hb35 kt
     by_cases hE5:E5=0
     ·have e10:(E5 != 0)=false:=by rw[hE5]; rfl
      have HRA:=ZH (HRAT.out w5 (HG.out.below HB5.out) hE5)
      have HSE:=ZH (HST.out hE5)
      clear hE5
      go_wp2_with fail
      refine HRA.out.mono ?_
      rintro e w6 ⟨v6,rfl,hv6,hb6⟩
      have HB6:=ZH (HB5.out.trans (hb6.mono HB5.out.size))
      have HR6:=ZH hv6
      clear hv6 hb6 y0 y1
      go_wp2_with fail
      refine (ratSign_any HR6.out).mono ?_
      rintro e w7 ⟨rfl,hb7⟩
      have HB7:=ZH (HB6.out.trans (hb7.mono HB6.out.size))
      obtain ⟨sg,hsg⟩:∃x,x=cmpI (readVal tl).num 0:=⟨_,rfl⟩
      rw[←hsg]
      clear hb7
      by_cases hz:(readVal tl).num=0
      ·have hs0:(sg==0)=true:=by rw[hsg,hz]; rfl
       have HER:=ZH (HSE.out.1 (Rat.num_eq_zero.1 hz))
       clear hsg hz
       go_wp2_with fail
       go_ret
       exact ⟨by first | (rw[HER.out]; done) | (rw[HER.out]; rfl),HAL.out.trans (HB7.out.mono HAL.out.size)⟩
      ·have hs0:(sg==0)=false:=by
        rw[ZQ,hsg]
        unfold cmpI
        split
        ·decide
        ·split
         ·decide
         ·omega
       have HNX:=ZH (HSE.out.2 (fun h=>hz (by rw[h]; rfl)))
       clear hsg hz
       go_wp2_with fail
       go_roundg (n-(k+1))
       case measure=>have:=HLT.out; omega
       case rel=>exact ⟨k+1,by have:=HLT.out; omega,by first | (congr 1; done) | (subst hkz; rfl) | (congr 1; exact IntWalk.wrap64_in ((k:Int)+1) (by have:=HLT.out; omega)),HNX,HB7⟩
     ·have e10:(E5 != 0)=true:=by simp[hE5]
      have HER:=ZH (HSN.out hE5)
      clear hE5
      go_wp2_with fail
      go_ret
      exact ⟨by first | (rw[HER.out]; done) | (rw[HER.out]; rfl),HAL.out.trans (HB5.out.mono HAL.out.size)⟩
   ·have e5:((k:Int)<(n:Int))=False:=eq_false (by omega)
    obtain rfl:k=n:=by omega
    have HE:=ZH (show FE=0 by rw[HFE4.out]; exact hz0.out)
    go_wp2_with fail
    go_ret
    exact ⟨by first | (rw[HE.out]; done) | (rw[HE.out]; rfl),HAL.out.trans (hbw.out.mono HAL.out.size)⟩
 ·have e3:(E0 != 0)=true:=by simp[h3]
  have HE:=ZH (show FE=E0 by rw[HFE2.out,if_pos h3])
  clear h3
  go_wp2_with fail
  go_ret
  exact ⟨by first | (rw[HE.out]; done) | (rw[HE.out]; rfl),HAL.out.trans (HB2.out.mono HAL.out.size)⟩
def fewT (c:List UInt8) (L:List (Int×List UInt8)):Prop:=(∀j,j<L.length→(L.getD j (0,[])).2.length≤20)∧L.length≤6∧c.length≤20
theorem pfewTerms_any {w:World} {v:Value} {c:List UInt8} {L:List (Int×List UInt8)} (hf:FormZ w v c L):Calls Tryz.prog 16 #[v] w fun e w'=>∃b:Bool,e=.returned (.bool b)∧(b=true↔fewT c L)∧Below w.heap.size w w':=by
 obtain ⟨tv,rfl,ao,ca,rfl,hta,htb,htc⟩:=hf
 obtain ⟨n,hn⟩:∃n,n=L.length:=⟨_,rfl⟩
 obtain ⟨s,hs⟩:∃s:ByteArray,s=⟨c.toArray⟩:=⟨_,rfl⟩
 have hsz:s.size=c.length:=by rw[hs]; simp[ByteArray.size]
 obtain ⟨wa,bf,hwa,hbf,hal,k0⟩:=new_box w #[.string s,.slice ao n ca] 27
 have hcap:n≤ca∧ca≤9223372036854775807:=by rw[hn]; exact ⟨hta,htb⟩
 rw[←hn,←hs]
 have HTC:=ZH htc
 have HAL:=ZH hal
 have HK0:=ZH k0
 have HN:=ZH (ZN hn hsz)
 have HW:=ZH (ZN hwa hbf)
 clear hwa hbf hal k0 hta htb htc hs hn hsz
 go_enter Tryz.func16,Tryz.ntmps16
 go_upto_region 1 with fail
 rw[←HW.out.1,←HW.out.2]
 clear HW
 go_wp2_with fail
 go_loopg [3] n (fun gk x wr=>∃k:Nat,k+gk=n∧x=.int .i64 k∧k≤7∧Hid (∀j,j<k→(L.getD j (0,[])).2.length≤20)∧Hid (Below wa.heap.size wa wr))
 case atStart=>exact ⟨0,by omega,rfl,by omega,ZH (fun j hj=>by omega),ZH (ZR _ _)⟩
 case round=>
  obtain ⟨k,hk,rfl,hk7,hok,hbw⟩:=hrel
  obtain ⟨s0,s1⟩:=cells2 hbw.out HK0.out
  by_cases hlt:k<n∧k<7
  ·have e1:((k:Int)<(n:Int))=True:=eq_true (by omega)
   have e2:((k:Int)<(7:Int))=True:=eq_true (by omega)
   obtain ⟨g,o,rfl,-,hcc⟩:=HTC.out (by have:=HN.out; omega)
   have hx:=(hcc k (by have:=HN.out; omega)).2
   obtain ⟨tl,htl⟩:∃x,x=(L.getD k (0,[])).2:=⟨_,rfl⟩
   rw[←htl] at hx
   obtain ⟨tt,htx⟩:∃s:ByteArray,s=⟨tl.toArray⟩:=⟨_,rfl⟩
   rw[←htx] at hx
   have htz:tt.size=tl.length:=by rw[htx]; simp[ByteArray.size]
   have x1:=ZJ (HAL.out.trans (hbw.out.mono HAL.out.size)) hx
   have HLT:=ZH (ZN hlt (ZN htl htz))
   have HOK:=ZH hok.out
   have HBW:=ZH hbw.out
   have hk0:(0:Int)≤(k:Int):=by omega
   have hk1:(k:Int)<(n:Int):=by omega
   clear hcc hx htl htx htz hlt hok hbw hk7
   by_cases h20:20<tt.size
   ·have e3:((20:Int)<(tt.size:Int))=True:=eq_true (by omega)
    have HF:=ZH (show ¬fewT c L from fun h=>by
     have h1:=h.1 k (by have:=HLT.out.1; have:=HN.out.1; omega)
     rw[←HLT.out.2.1] at h1
     have:=HLT.out.2.2
     omega)
    clear h20
    go_wp2_with fail
    go_ret
    exact ⟨false,rfl,⟨fun h=>absurd h (by simp),fun h=>absurd h HF.out⟩,HAL.out.trans (HBW.out.mono HAL.out.size)⟩
   ·have e3:((20:Int)<(tt.size:Int))=False:=eq_false (by omega)
    have HNX:=ZH (show ∀j,j<k+1→(L.getD j (0,[])).2.length≤20 from fun j hj=>by
     rcases Nat.lt_or_eq_of_le (Nat.le_of_lt_succ hj) with h | h
     ·exact HOK.out j h
     ·rw[h,←HLT.out.2.1]
      have:=HLT.out.2.2
      omega)
    clear h20
    go_wp2_with fail
    go_roundg (n-(k+1))
    case measure=>have:=HLT.out.1; omega
    case rel=>exact ⟨k+1,by have:=HLT.out.1; omega,by first | (congr 1; done) | (congr 1; exact IntWalk.wrap64_in ((k:Int)+1) (by have:=HLT.out.1; omega)),by have:=HLT.out.1; omega,HNX,HBW⟩
  ·have HOK:=ZH hok.out
   have HBW:=ZH hbw.out
   have hsl:(6<n∨k=n):=by omega
   have HB:=ZH (HAL.out.trans (hbw.out.mono HAL.out.size))
   clear hok hbw
   by_cases hn6:n≤6
   ·have e1:((k:Int)<(n:Int))=False:=eq_false (by omega)
    have e4:((n:Int)≤(6:Int))=True:=eq_true (by omega)
    obtain rfl:k=n:=by omega
    by_cases hc20:s.size≤20
    ·have e5:((s.size:Int)≤(20:Int))=True:=eq_true (by omega)
     have HF:=ZH (show fewT c L from ⟨fun j hj=>HOK.out j (by have:=HN.out.1; omega),by have:=HN.out.1; omega,by have:=HN.out.2; omega⟩)
     clear hc20 hn6 hlt hsl hk7
     go_wp2_with fail
     go_ret
     exact ⟨true,rfl,⟨fun _=>HF.out,fun _=>rfl⟩,HB.out⟩
    ·have e5:((s.size:Int)≤(20:Int))=False:=eq_false (by omega)
     have HF:=ZH (show ¬fewT c L from fun h=>by have h1:=h.2.2; have:=HN.out.2; omega)
     clear hc20 hn6 hlt hsl hk7
     go_wp2_with fail
     go_ret
     exact ⟨false,rfl,⟨fun h=>absurd h (by simp),fun h=>absurd h HF.out⟩,HB.out⟩
   ·have e4:((n:Int)≤(6:Int))=False:=eq_false (by omega)
    have HF:=ZH (show ¬fewT c L from fun h=>by have h1:=h.2.1; have:=HN.out.1; omega)
    by_cases hkn:k<n
    ·have e1:((k:Int)<(n:Int))=True:=eq_true (by omega)
     have e2:((k:Int)<(7:Int))=False:=eq_false (by omega)
     clear hn6 hlt hsl hk7 hkn
     go_wp2_with fail
     go_ret
     exact ⟨false,rfl,⟨fun h=>absurd h (by simp),fun h=>absurd h HF.out⟩,HB.out⟩
    ·have e1:((k:Int)<(n:Int))=False:=eq_false (by omega)
     clear hn6 hlt hsl hk7 hkn
     go_wp2_with fail
     go_ret
     exact ⟨false,rfl,⟨fun h=>absurd h (by simp),fun h=>absurd h HF.out⟩,HB.out⟩
mutual
def FewE : Nat→Ex→Prop
 | 0,_=>False
 | n+1,.mk _ c t f a=>fewT c t∧f.length≤20∧FewL n a
def FewL : Nat→List Ex→Prop
 | _,[]=>True
 | n,x::l=>FewE n x∧FewL n l
end
theorem fewE_eq (n:Nat) (x:Ex):FewE (n+1) x↔fewT x.c x.t∧x.f.length≤20∧FewL n x.a:=by cases x; rw[FewE]; exact Iff.rfl
theorem fewL_at : ∀{n:Nat} {l:List Ex} {j:Nat},FewL n l→j<l.length→FewE n (l.getD j Ex.none)
 | n,[],j,_,h=>by simp at h
 | n,x::l,0,h,_=>by rw[FewL] at h; exact h.1
 | n,x::l,j+1,h,hj=>by
  rw[FewL] at h
  exact fewL_at (l:=l) h.2 (by simpa using hj)
theorem fewL_of : ∀{n:Nat} {l:List Ex},(∀j,j<l.length→FewE n (l.getD j Ex.none))→FewL n l
 | n,[],_=>by rw[FewL]; trivial
 | n,x::l,h=>by
  rw[FewL]
  exact ⟨h 0 (by simp),fewL_of fun j hj=>h (j+1) (by simpa using hj)⟩
mutual
theorem few_dep : ∀{n:Nat} {x:Ex},FewE n x→depE x≤n∧TermsE 6 x
 | 0,x,h=>by rw[FewE] at h; exact h.elim
 | n+1,.mk o c t f a,h=>by
  rw[FewE] at h
  have h2:=fewL_dep h.2.2
  rw[depE,TermsE]
  exact ⟨by omega,h.1.2.1,h2.2⟩
theorem fewL_dep : ∀{n:Nat} {l:List Ex},FewL n l→depL l≤n∧TermsL 6 l
 | n,[],_=>by rw[depL,TermsL]; exact ⟨Nat.zero_le _,trivial⟩
 | n,x::l,h=>by
  rw[FewL] at h
  have h1:=few_dep h.1
  have h2:=fewL_dep h.2
  rw[depL,TermsL]
  exact ⟨Nat.max_le.2 ⟨h1.1,h2.1⟩,h1.2,h2.2⟩
end
end Go.Proofs.YtdcaaehapdhckaaGreatDoor
