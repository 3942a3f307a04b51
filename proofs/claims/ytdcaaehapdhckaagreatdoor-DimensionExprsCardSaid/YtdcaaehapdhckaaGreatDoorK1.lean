/- dimension.CheckForm, at whatever form: its first error. -/
import Derived.Test.YtdcaaehapdhckaaGreatDoorKZ
import Derived.Test.YtdcaaehapdhckaaGreatDoorKM
import Derived.Test.YtdcaaehapdhckaaGreatDoorKX
import Derived.Test.YtdcaaehapdhckaaGreatDoorKI
import Derived.Lib.ItoaLen
import Derived.Test.YtdcaaehapdhckaaGreatDoorKW
import Derived.Test.YtdcaaehapdhckaaGreatDoorKF
import Derived.Test.YtdcaaehapdhckaaGreatDoorFlow2M
set_option linter.unusedSimpArgs false
set_option linter.unusedVariables false
set_option maxRecDepth 100000
namespace Go.Proofs.YtdcaaehapdhckaaGreatDoor
open Go.RowKit Go.Num Go.Flow
set_option maxHeartbeats 8000000
set_option linter.unusedVariables false

def TermsZ (w:World) (v:Value) (l:List (Int×List UInt8)):Prop:=∃ao c,v=.slice ao l.length c∧l.length≤c∧c≤maxLen∧(0<l.length→∃g o,ao=some ⟨g,o,none⟩∧g<w.heap.size∧∀j,j<l.length→w.cell? ⟨g,o+j*2,none⟩=some (.int .i64 (l.getD j (0,[])).1)∧w.cell? ⟨g,o+j*2+1,none⟩=some (.string ⟨(l.getD j (0,[])).2.toArray⟩))
theorem TermsZ.below {w w':World} {v:Value} {l:List (Int×List UInt8)} (h:TermsZ w v l) (hb:Below w.heap.size w w'):TermsZ w' v l:=by
 obtain ⟨ao,c,e,h1,h2,h3⟩:=h
 refine ⟨ao,c,e,h1,h2,fun h0=>?_⟩
 obtain ⟨g,o,e,hl,hc⟩:=h3 h0
 exact ⟨g,o,e,Nat.lt_of_lt_of_le hl hb.size,fun j hj=>⟨ZJ hb (hc j hj).1,ZJ hb (hc j hj).2⟩⟩
def FormZ (w:World) (v:Value) (c:List UInt8) (l:List (Int×List UInt8)):Prop:=∃tv,v=.agg #[.string ⟨c.toArray⟩,tv]∧TermsZ w tv l
theorem FormZ.below {w w':World} {v:Value} {c:List UInt8} {l:List (Int×List UInt8)} (h:FormZ w v c l) (hb:Below w.heap.size w w'):FormZ w' v c l:=by
 obtain ⟨tv,e,ht⟩:=h
 exact ⟨tv,e,ht.below hb⟩
def zTerms (l:List (Nat×List UInt8)):List (Int×List UInt8):=l.map fun p=>((p.1:Int),p.2)
theorem zTerms_at {l:List (Nat×List UInt8)} {j:Nat} (hj:j<l.length):(zTerms l).getD j (0,[])=(((l.getD j (0,[])).1:Int),(l.getD j (0,[])).2):=by
 unfold zTerms
 rw[List.getD_eq_getElem?_getD,List.getElem?_map,List.getD_eq_getElem?_getD,List.getElem?_eq_getElem hj]
 rfl
theorem TermsIn.z {w:World} {v:Value} {l:List (Nat×List UInt8)} (h:TermsIn w v l):TermsZ w v (zTerms l):=by
 obtain ⟨ao,c,e,h1,h2,h3⟩:=h
 have hl:(zTerms l).length=l.length:=by unfold zTerms; rw[List.length_map]
 refine ⟨ao,c,by rw[hl]; exact e,by rw[hl]; exact h1,h2,fun h0=>?_⟩
 obtain ⟨g,o,e,hlt,hc⟩:=h3 (by omega)
 exact ⟨g,o,e,hlt,fun j hj=>by rw[zTerms_at (by omega)]; exact hc j (by omega)⟩
theorem TermsZ.nat {w:World} {v:Value} {l:List (Nat×List UInt8)} (h:TermsZ w v (zTerms l)):TermsIn w v l:=by
 obtain ⟨ao,c,e,h1,h2,h3⟩:=h
 have hl:(zTerms l).length=l.length:=by unfold zTerms; rw[List.length_map]
 rw[hl] at e h1 h3
 refine ⟨ao,c,e,h1,h2,fun h0=>?_⟩
 obtain ⟨g,o,e,hlt,hc⟩:=h3 h0
 exact ⟨g,o,e,hlt,fun j hj=>by have:=hc j hj; rw[zTerms_at hj] at this; exact this⟩
def stepErr (n:Int) (L:List (Int×List UInt8)) (j:Nat):Int:=
 if (L.getD j (0,[])).1<0∨n≤(L.getD j (0,[])).1 then 2 else if 0<j∧(L.getD j (0,[])).1≤(L.getD (j-1) (0,[])).1 then 8
 else if readErr (L.getD j (0,[])).2 400≠0 then readErr (L.getD j (0,[])).2 400 else if readVal (L.getD j (0,[])).2=0 then 19 else 0
def fstErr (f:Nat→Int):Nat→Int
 | 0=>0
 | k+1=>if fstErr f k≠0 then fstErr f k else f k
theorem fstErr_at {f:Nat→Int} {j:Nat} (h0:fstErr f j=0) (h1:f j≠0):∀d,fstErr f (j+1+d)=f j
 | 0=>by
  show (if fstErr f j≠0 then fstErr f j else f j)=f j
  rw[if_neg (by simp[h0])]
 | d+1=>by
  have h:=fstErr_at h0 h1 d
  show (if fstErr f (j+1+d)≠0 then fstErr f (j+1+d) else f (j+1+d))=f j
  rw[h,if_pos h1]
theorem fstErr_lt {f:Nat→Int} {j n:Nat} (hj:j<n) (h0:fstErr f j=0) (h1:f j≠0):fstErr f n=f j:=by
 have h:=fstErr_at h0 h1 (n-(j+1))
 rw[show j+1+(n-(j+1))=n by omega] at h
 exact h
theorem fstErr_next {f:Nat→Int} {j:Nat} (h0:fstErr f j=0) (h1:f j=0):fstErr f (j+1)=0:=by
 show (if fstErr f j≠0 then fstErr f j else f j)=0
 rw[if_neg (by simp[h0]),h1]
def formErr (c:List UInt8) (L:List (Int×List UInt8)) (n:Int):Int:=
 if n<0∨64<n then 2 else if readErr c 400≠0 then readErr c 400 else if 64<L.length then 6 else fstErr (stepErr n L) L.length
theorem mCheckForm_any {w:World} (hg:Glob w) {v:Value} {c:List UInt8} {L:List (Int×List UInt8)} (hf:FormZ w v c L) (hc:c.length≤4294967280) (ht:∀p,p∈L→p.2.length≤4294967280) (nv:Int) :
  Calls Tryz.prog 17 #[v,.int .i64 nv] w fun e w'=>e=.returned (.int .i64 (formErr c L nv))∧Below w.heap.size w w':=by
 obtain ⟨tv,rfl,ao,ca,rfl,hta,htb,htc⟩:=hf
 obtain ⟨n,hn⟩:∃n,n=L.length:=⟨_,rfl⟩
 obtain ⟨s,hs⟩:∃s:ByteArray,s=⟨c.toArray⟩:=⟨_,rfl⟩
 obtain ⟨wa,hwa⟩:∃wa,wa=w.alloc (.cells #[.string s,.slice ao n ca] 27):=⟨_,rfl⟩
 obtain ⟨bf,hbf⟩:∃b,b=w.heap.size:=⟨_,rfl⟩
 have hal:Below w.heap.size w wa:=by rw[hwa]; exact (ZR _ w).alloc (Nat.le_refl _) _
 have k0:wa.heap[bf]?=some (.cells #[.string s,.slice ao n ca] 27 (0,0)):=by rw[hwa,hbf]; exact ZW w _
 have hcap:n≤ca∧ca≤9223372036854775807:=by rw[hn]; exact ⟨hta,htb⟩
 have hnum:=number_any s (by
  have h1:s.size=c.length:=by rw[hs]; simp[ByteArray.size]
  omega) (hg.below hal)
 unfold ReadPost at hnum
 obtain ⟨E0,hE0⟩:∃x,x=readErr c 400:=⟨_,rfl⟩
 obtain ⟨FE,hFE⟩:∃x,x=formErr c L nv:=⟨_,rfl⟩
 rw[show s.data.toList=c by rw[hs],←hE0] at hnum
 have hFE2:FE=if nv<0∨64<nv then 2 else if E0≠0 then E0 else if 64<n then 6 else fstErr (stepErr nv L) n:=by rw[hFE,hE0,hn]; rfl
 rw[←hn,←hs,←hFE]
 have HNUM:=ZH hnum
 have HG:=ZH (hg.below hal)
 have HTC:=ZH htc
 have HT:=ZH ht
 have HAL:=ZH hal
 have HK0:=ZH k0
 have HN:=ZH hn
 have HFE:=ZH hFE2
 have HW:=ZH (ZN hwa hbf)
 have s0:=ZI k0 0
 have s1:=ZI k0 1
 simp at s0 s1
 clear hwa hbf hal k0 hg hta htb htc ht hc hs hnum hn hE0 hFE hFE2
 go_enter Tryz.func17,Tryz.ntmps17
 go_upto_region 1 with fail
 rw[←HW.out.1,←HW.out.2]
 clear HW
 by_cases h1:nv<0
 ·have e1:(nv<0)=True:=eq_true h1
  have HE:=ZH (show FE=2 by rw[HFE.out,if_pos (.inl h1)])
  clear h1
  go_wp2_with fail
  go_ret
  exact ⟨by first | (rw[HE.out]; done) | (rw[HE.out]; rfl),HAL.out⟩
 have e1:(nv<0)=False:=eq_false h1
 by_cases h2:64<nv
 ·have e2:(64<nv)=True:=eq_true h2
  have HE:=ZH (show FE=2 by rw[HFE.out,if_pos (.inr h2)])
  clear h1 h2
  go_wp2_with fail
  go_ret
  exact ⟨by first | (rw[HE.out]; done) | (rw[HE.out]; rfl),HAL.out⟩
 have e2:(64<nv)=False:=eq_false h2
 have HFE2:=ZH (show FE=if E0≠0 then E0 else if 64<n then 6 else fstErr (stepErr nv L) n by rw[HFE.out,if_neg (by omega)])
 clear h1 h2 HFE
 go_wp2_with fail
 refine HNUM.out.mono ?_
 rintro e w1 ⟨v1,rfl,hr1,hn1,hb1⟩
 have hv:∃s1 a1 c1 l1 s2 a2 c2 l2,v1=.agg #[.bool s1,.slice a1 c1 l1,.bool s2,.slice a2 c2 l2]:=by
  by_cases h:E0=0
  ·exact rt_shape (hr1 h)
  ·exact ⟨_,_,_,_,_,_,_,_,hn1 h⟩
 obtain ⟨p1,g1,f1,n1,p2,g2,f2,n2,rfl⟩:=hv
 have HB1:=ZH hb1
 clear hr1 hn1 hb1 s0 s1
 go_upto_region 4 with fail
 obtain ⟨w2,hw2⟩:∃x,x=w1.alloc (.cells #[.bool p1,.slice g1 f1 n1,.bool p2,.slice g2 f2 n2] 47):=⟨_,rfl⟩
 rw[←hw2]
 have HB2:=ZH (HB1.out.trans (show Below wa.heap.size w1 w2 from by rw[hw2]; exact (ZR _ w1).alloc HB1.out.size _))
 have hkf:=(HB2.out.block bf (ZL HK0.out)).trans HK0.out
 have s0:=ZI hkf 0
 have s1:=ZI hkf 1
 simp at s0 s1
 clear hw2 hkf
 by_cases h3:E0=0
 ·have e3:(E0 != 0)=false:=by rw[h3]; rfl
  have HFE3:=ZH (show FE=if 64<n then 6 else fstErr (stepErr nv L) n by rw[HFE2.out,if_neg (by simp[h3])])
  clear h3 HFE2
  by_cases h4:64<n
  ·have e4:((64:Int)<(n:Int))=True:=eq_true (by omega)
   have HE:=ZH (show FE=6 by rw[HFE3.out,if_pos h4])
   clear h4
   go_wp2_with fail
   go_ret
   exact ⟨by first | (rw[HE.out]; done) | (rw[HE.out]; rfl),HAL.out.trans (HB2.out.mono HAL.out.size)⟩
  have e4:((64:Int)<(n:Int))=False:=eq_false (by omega)
  have HFE4:=ZH (show FE=fstErr (stepErr nv L) n by rw[HFE3.out,if_neg h4])
  have hn64:n≤64:=by omega
  clear h4 HFE3
  go_wp2_with fail
  clear s0 s1
  go_loopg [33] n (fun gk x wr=>∃k:Nat,k+gk=n∧x=.int .i64 k∧Hid (fstErr (stepErr nv L) k=0)∧Hid (Below wa.heap.size wa wr))
  case atStart=>exact ⟨0,by omega,rfl,ZH rfl,HB2⟩
  case round=>
   obtain ⟨k,hk,rfl,hz0,hbw⟩:=hrel
   by_cases hlt:k<n
   ·have e5:((k:Int)<(n:Int))=True:=eq_true (by omega)
    obtain ⟨g,o,rfl,-,hcc⟩:=HTC.out (by have:=HN.out; omega)
    have hx:=hcc k (by have:=HN.out; omega)
    have hkL:k<L.length:=by have:=HN.out; omega
    have hsz:=HT.out (L.getD k (0,[])) (by rw[List.getD_eq_getElem?_getD,List.getElem?_eq_getElem hkL]; exact List.getElem_mem hkL)
    have hbw0:=HAL.out.trans (hbw.out.mono HAL.out.size)
    obtain ⟨tp,htp⟩:∃x,x=(L.getD (k-1) (0,[])).1:=⟨_,rfl⟩
    have hpx:0<k→wa.cell? ⟨g,o+(k-1)*2,none⟩=some (.int .i64 tp):=fun h0=>by
     rw[htp]
     exact ZJ HAL.out (hcc (k-1) (by have:=HN.out; omega)).1
    have hse:stepErr nv L k=if (L.getD k (0,[])).1<0∨nv≤(L.getD k (0,[])).1 then 2 else if 0<k∧(L.getD k (0,[])).1≤tp then 8
     else if readErr (L.getD k (0,[])).2 400≠0 then readErr (L.getD k (0,[])).2 400 else if readVal (L.getD k (0,[])).2=0 then 19 else 0:=by rw[htp]; rfl
    obtain ⟨⟨ti,tl⟩,htt⟩:∃x,x=L.getD k (0,[]):=⟨_,rfl⟩
    rw[←htt] at hx hsz hse
    simp only[] at hx hsz hse
    obtain ⟨E5,hE5⟩:∃x,x=readErr tl 400:=⟨_,rfl⟩
    rw[←hE5] at hse
    obtain ⟨tt,htx⟩:∃s:ByteArray,s=⟨tl.toArray⟩:=⟨_,rfl⟩
    rw[←htx] at hx
    have x0:=ZJ hbw0 hx.1
    have x1:=ZJ hbw0 hx.2
    have hnum:=fun (W:World) (hgW:Glob W)=>number_any tt (by
     have h1:tt.size=tl.length:=by rw[htx]; simp[ByteArray.size]
     omega) hgW
    unfold ReadPost at hnum
    simp only[show tt.data.toList=tl by rw[htx],←hE5] at hnum
    have hfe:stepErr nv L k≠0→FE=stepErr nv L k:=fun h=>by rw[HFE4.out]; exact fstErr_lt hlt hz0.out h
    have hnx:stepErr nv L k=0→fstErr (stepErr nv L) (k+1)=0:=fun h=>fstErr_next hz0.out h
    have HNUM2:=ZH hnum
    have HPX:=ZH hpx
    have HLT:=ZH hlt
    have HSE:=ZH (ZN hse (ZN hfe hnx))
    have hk0:(0:Int)≤(k:Int):=by omega
    have hk1:(k:Int)<(n:Int):=by omega
    clear hcc hx hbw0 htp hpx htt htx hnum hlt hz0 hE5 hfe hnx hse hkL hsz
    go_upto_region 11 with fail
    obtain ⟨w3,hw3⟩:∃x,x=wr.alloc (.cells #[.int .i64 ti,.string tt] 85):=⟨_,rfl⟩
    obtain ⟨bt,hbt⟩:∃b,b=wr.heap.size:=⟨_,rfl⟩
    rw[←hw3,←hbt]
    have hl3:Below wr.heap.size wr w3:=by rw[hw3]; exact (ZR _ wr).alloc (Nat.le_refl _) _
    have kt:w3.heap[bt]?=some (.cells #[.int .i64 ti,.string tt] 85 (0,0)):=by rw[hw3,hbt]; exact ZW wr _
    have HKT:=ZH kt
    have HB3:=ZH (hbw.out.trans (hl3.mono hbw.out.size))
    have y0:=ZI kt 0
    have y1:=ZI kt 1
    have kf:=(HB3.out.block bf (ZL HK0.out)).trans HK0.out
    have s0:=ZI kf 0
    have s1:=ZI kf 1
    simp at y0 y1 s0 s1
    clear hw3 hbt hl3 kt kf x0 x1 hbw
    by_cases h5:ti<0
    ·have e6:(ti<0)=True:=eq_true h5
     have HE:=ZH (show FE=2 by
      have h:=HSE.out.1
      rw[if_pos (.inl h5)] at h
      rw[HSE.out.2.1 (by rw[h]; decide),h])
     clear h5
     go_wp2_with fail
     go_ret
     exact ⟨by first | (rw[HE.out]; done) | (rw[HE.out]; rfl),HAL.out.trans (HB3.out.mono HAL.out.size)⟩
    have e6:(ti<0)=False:=eq_false h5
    by_cases h6:nv≤ti
    ·have e7:(nv≤ti)=True:=eq_true h6
     have HE:=ZH (show FE=2 by
      have h:=HSE.out.1
      rw[if_pos (.inr h6)] at h
      rw[HSE.out.2.1 (by rw[h]; decide),h])
     clear h5 h6
     go_wp2_with fail
     go_ret
     exact ⟨by first | (rw[HE.out]; done) | (rw[HE.out]; rfl),HAL.out.trans (HB3.out.mono HAL.out.size)⟩
    have e7:(nv≤ti)=False:=eq_false h6
    have HS2:=ZH (show stepErr nv L k=if 0<k∧ti≤tp then 8 else if E5≠0 then E5 else if readVal tl=0 then 19 else 0 by
     have h:=HSE.out.1
     rw[if_neg (by omega)] at h
     exact h)
    clear h5 h6
    go_upto_region 13 with fail
    rcases Nat.eq_zero_or_pos k with hkz | hkz
    ·have e8:((0:Int)<(k:Int))=False:=eq_false (by omega)
     have hs3:stepErr nv L k=if E5≠0 then E5 else if readVal tl=0 then 19 else 0:=by rw[HS2.out,if_neg (by omega)]
     have HST:=ZH (show E5=0→(readVal tl=0→FE=19)∧(readVal tl≠0→Hid (fstErr (stepErr nv L) (k+1)=0)) from fun h=>by
      rw[if_neg (by simp[h])] at hs3
      refine ⟨fun hz=>?_,fun hz=>?_⟩
      ·rw[if_pos hz] at hs3
       rw[HSE.out.2.1 (by rw[hs3]; decide),hs3]
      ·rw[if_neg hz] at hs3
       exact ZH (HSE.out.2.2 hs3))
     have HSN:=ZH (show E5≠0→FE=E5 from fun h=>by
      rw[if_pos h] at hs3
      rw[HSE.out.2.1 (by rw[hs3]; exact h),hs3])
     clear hs3
     go_quiet (fail)
     obtain ⟨w4,hw4⟩:∃x,x=w3.drewN nq:=⟨_,rfl⟩
     rw[←hw4]
     have hb34:Below w3.heap.size w3 w4:=by rw[hw4]; exact below_drawn w3 nq
     have HB4:=ZH (HB3.out.trans (hb34.mono HB3.out.size))
     have kt:=(hb34.block bt (ZL HKT.out)).trans HKT.out
     have y0:=ZI kt 0
     have y1:=ZI kt 1
     simp at y0 y1
     clear hw4 hb34 kt s0 s1
     go_wp2_with fail
     refine (HNUM2.out w4 (HG.out.below HB4.out)).mono ?_
     rintro e w5 ⟨v5,rfl,hr5,hn5,hb5⟩
     have hv:∃s1 a1 c1 l1 s2 a2 c2 l2,v5=.agg #[.bool s1,.slice a1 c1 l1,.bool s2,.slice a2 c2 l2]:=by
      by_cases h:E5=0
      ·exact rt_shape (hr5 h)
      ·exact ⟨_,_,_,_,_,_,_,_,hn5 h⟩
     obtain ⟨t1,b1,d1,m1,t2,b2,d2,m2,rfl⟩:=hv
     have HR5:=ZH hr5
     have HB5:=ZH (HB4.out.trans (hb5.mono HB4.out.size))
     clear hr5 hn5 hb5 y0 y1
     go_upto_region 16 with fail
     obtain ⟨w6,hw6⟩:∃x,x=w5.alloc (.cells #[.bool t1,.slice b1 d1 m1,.bool t2,.slice b2 d2 m2] 47):=⟨_,rfl⟩
     obtain ⟨bq,hbq⟩:∃b,b=w5.heap.size:=⟨_,rfl⟩
     rw[←hw6,←hbq]
     have hl6:Below w5.heap.size w5 w6:=by rw[hw6]; exact (ZR _ w5).alloc (Nat.le_refl _) _
     have kq:w6.heap[bq]?=some (.cells #[.bool t1,.slice b1 d1 m1,.bool t2,.slice b2 d2 m2] 47 (0,0)):=by rw[hw6,hbq]; exact ZW w5 _
     have z0:=ZI kq 0
     have z1:=ZI kq 1
     have z2:=ZI kq 2
     have z3:=ZI kq 3
     simp at z0 z1 z2 z3
     have HB6:=ZH (HB5.out.trans (hl6.mono HB5.out.size))
     have HL6:=ZH hl6
     clear hw6 hbq hl6 kq
     by_cases hE5:E5=0
     ·have e10:(E5 != 0)=false:=by rw[hE5]; rfl
      have HR6:=ZH ((HR5.out hE5).below HL6.out)
      have HSE:=ZH (HST.out hE5)
      clear hE5
      go_wp2_with fail
      refine (ratSign_any HR6.out).mono ?_
      rintro e w7 ⟨rfl,hb7⟩
      have HB7:=ZH (HB6.out.trans (hb7.mono HB6.out.size))
      obtain ⟨sg,hsg⟩:∃x,x=cmpI (readVal tl).num 0:=⟨_,rfl⟩
      rw[←hsg]
      clear hb7 z0 z1 z2 z3
      by_cases hz:(readVal tl).num=0
      ·have hs0:(sg==0)=true:=by rw[hsg,hz]; rfl
       have HER:=ZH (HSE.out.1 (Rat.num_eq_zero.1 hz))
       clear hsg hz
       go_wp2_with fail
       go_ret
       exact ⟨by first | (rw[HER.out]; done) | (rw[HER.out]; rfl),HAL.out.trans (HB7.out.mono HAL.out.size)⟩
      ·have hs0:(sg==0)=false:=by
        rw[ZQ,hsg]
        unfold cmpI
        split
        ·decide
        ·split
         ·decide
         ·omega
       have HNX:=ZH (HSE.out.2 (fun h=>hz (by rw[h]; rfl)))
       clear hsg hz
       go_wp2_with fail
       go_roundg (n-(k+1))
       case measure=>have:=HLT.out; omega
       case rel=>exact ⟨k+1,by have:=HLT.out; omega,by first | (congr 1; done) | (subst hkz; rfl) | (congr 1; exact IntWalk.wrap64_in ((k:Int)+1) (by have:=HLT.out; omega)),HNX,HB7⟩
     ·have e10:(E5 != 0)=true:=by simp[hE5]
      have HER:=ZH (HSN.out hE5)
      clear hE5
      go_wp2_with fail
      go_ret
      exact ⟨by first | (rw[HER.out]; done) | (rw[HER.out]; rfl),HAL.out.trans (HB6.out.mono HAL.out.size)⟩
    ·have e8:((0:Int)<(k:Int))=True:=eq_true (by omega)
     obtain ⟨m,hm⟩:∃m,m=k-1:=⟨_,rfl⟩
     have hpx:=HPX.out hkz
     rw[←hm] at hpx
     have x2:=ZJ HB3.out hpx
     have e9:wrap64 ((k:Int)-1)=(m:Int):=by rw[show (k:Int)-1=(m:Int) by omega]; exact IntWalk.wrap64_in _ (by omega)
     have e9':IntKind.i64.wrap ((k:Int)-1)=(m:Int):=by rw[show (k:Int)-1=(m:Int) by omega]; exact IntWalk.i64_in _ (by omega)
     have hm0:(0:Int)≤(m:Int):=by omega
     have hm1:(m:Int)<(n:Int):=by omega
     clear hpx hm
     by_cases h7:ti≤tp
     ·have e11:(ti≤tp)=True:=eq_true h7
      have HE:=ZH (show FE=8 by
       have h:=HS2.out
       rw[if_pos ⟨hkz,h7⟩] at h
       rw[HSE.out.2.1 (by rw[h]; decide),h])
      clear h7
      go_quiet (fail)
      obtain ⟨w4,hw4⟩:∃x,x=w3.drewN nq:=⟨_,rfl⟩
      rw[←hw4]
      have hb34:Below w3.heap.size w3 w4:=by rw[hw4]; exact below_drawn w3 nq
      have HB4:=ZH (HB3.out.trans (hb34.mono HB3.out.size))
      clear hw4 hb34
      go_wp2_with fail
      go_ret
      exact ⟨by first | (rw[HE.out]; done) | (rw[HE.out]; rfl),HAL.out.trans (HB4.out.mono HAL.out.size)⟩
     have e11:(ti≤tp)=False:=eq_false h7
     have hs3:stepErr nv L k=if E5≠0 then E5 else if readVal tl=0 then 19 else 0:=by rw[HS2.out,if_neg (by omega)]
     have HST:=ZH (show E5=0→(readVal tl=0→FE=19)∧(readVal tl≠0→Hid (fstErr (stepErr nv L) (k+1)=0)) from fun h=>by
      rw[if_neg (by simp[h])] at hs3
      refine ⟨fun hz=>?_,fun hz=>?_⟩
      ·rw[if_pos hz] at hs3
       rw[HSE.out.2.1 (by rw[hs3]; decide),hs3]
      ·rw[if_neg hz] at hs3
       exact ZH (HSE.out.2.2 hs3))
     have HSN:=ZH (show E5≠0→FE=E5 from fun h=>by
      rw[if_pos h] at hs3
      rw[HSE.out.2.1 (by rw[hs3]; exact h),hs3])
     clear hs3 h7
     go_quiet (fail)
     obtain ⟨w4,hw4⟩:∃x,x=w3.drewN nq:=⟨_,rfl⟩
     rw[←hw4]
     have hb34:Below w3.heap.size w3 w4:=by rw[hw4]; exact below_drawn w3 nq
     have HB4:=ZH (HB3.out.trans (hb34.mono HB3.out.size))
     have kt:=(hb34.block bt (ZL HKT.out)).trans HKT.out
     have y0:=ZI kt 0
     have y1:=ZI kt 1
     simp at y0 y1
     clear hw4 hb34 kt s0 s1
     go_wp2_with fail
     refine (HNUM2.out w4 (HG.out.below HB4.out)).mono ?_
     rintro e w5 ⟨v5,rfl,hr5,hn5,hb5⟩
     have hv:∃s1 a1 c1 l1 s2 a2 c2 l2,v5=.agg #[.bool s1,.slice a1 c1 l1,.bool s2,.slice a2 c2 l2]:=by
      by_cases h:E5=0
      ·exact rt_shape (hr5 h)
      ·exact ⟨_,_,_,_,_,_,_,_,hn5 h⟩
     obtain ⟨t1,b1,d1,m1,t2,b2,d2,m2,rfl⟩:=hv
     have HR5:=ZH hr5
     have HB5:=ZH (HB4.out.trans (hb5.mono HB4.out.size))
     clear hr5 hn5 hb5 y0 y1
     go_upto_region 16 with fail
     obtain ⟨w6,hw6⟩:∃x,x=w5.alloc (.cells #[.bool t1,.slice b1 d1 m1,.bool t2,.slice b2 d2 m2] 47):=⟨_,rfl⟩
     obtain ⟨bq,hbq⟩:∃b,b=w5.heap.size:=⟨_,rfl⟩
     rw[←hw6,←hbq]
     have hl6:Below w5.heap.size w5 w6:=by rw[hw6]; exact (ZR _ w5).alloc (Nat.le_refl _) _
     have kq:w6.heap[bq]?=some (.cells #[.bool t1,.slice b1 d1 m1,.bool t2,.slice b2 d2 m2] 47 (0,0)):=by rw[hw6,hbq]; exact ZW w5 _
     have z0:=ZI kq 0
     have z1:=ZI kq 1
     have z2:=ZI kq 2
     have z3:=ZI kq 3
     simp at z0 z1 z2 z3
     have HB6:=ZH (HB5.out.trans (hl6.mono HB5.out.size))
     have HL6:=ZH hl6
     clear hw6 hbq hl6 kq
     by_cases hE5:E5=0
     ·have e10:(E5 != 0)=false:=by rw[hE5]; rfl
      have HR6:=ZH ((HR5.out hE5).below HL6.out)
      have HSE:=ZH (HST.out hE5)
      clear hE5
      go_wp2_with fail
      refine (ratSign_any HR6.out).mono ?_
      rintro e w7 ⟨rfl,hb7⟩
      have HB7:=ZH (HB6.out.trans (hb7.mono HB6.out.size))
      obtain ⟨sg,hsg⟩:∃x,x=cmpI (readVal tl).num 0:=⟨_,rfl⟩
      rw[←hsg]
      clear hb7 z0 z1 z2 z3
      by_cases hz:(readVal tl).num=0
      ·have hs0:(sg==0)=true:=by rw[hsg,hz]; rfl
       have HER:=ZH (HSE.out.1 (Rat.num_eq_zero.1 hz))
       clear hsg hz
       go_wp2_with fail
       go_ret
       exact ⟨by first | (rw[HER.out]; done) | (rw[HER.out]; rfl),HAL.out.trans (HB7.out.mono HAL.out.size)⟩
      ·have hs0:(sg==0)=false:=by
        rw[ZQ,hsg]
        unfold cmpI
        split
        ·decide
        ·split
         ·decide
         ·omega
       have HNX:=ZH (HSE.out.2 (fun h=>hz (by rw[h]; rfl)))
       clear hsg hz
       go_wp2_with fail
       go_roundg (n-(k+1))
       case measure=>have:=HLT.out; omega
       case rel=>exact ⟨k+1,by have:=HLT.out; omega,by first | (congr 1; done) | (subst hkz; rfl) | (congr 1; exact IntWalk.wrap64_in ((k:Int)+1) (by have:=HLT.out; omega)),HNX,HB7⟩
     ·have e10:(E5 != 0)=true:=by simp[hE5]
      have HER:=ZH (HSN.out hE5)
      clear hE5
      go_wp2_with fail
      go_ret
      exact ⟨by first | (rw[HER.out]; done) | (rw[HER.out]; rfl),HAL.out.trans (HB6.out.mono HAL.out.size)⟩
   ·have e5:((k:Int)<(n:Int))=False:=eq_false (by omega)
    obtain rfl:k=n:=by omega
    have HE:=ZH (show FE=0 by rw[HFE4.out]; exact hz0.out)
    go_wp2_with fail
    go_ret
    exact ⟨by first | (rw[HE.out]; done) | (rw[HE.out]; rfl),HAL.out.trans (hbw.out.mono HAL.out.size)⟩
 ·have e3:(E0 != 0)=true:=by simp[h3]
  have HE:=ZH (show FE=E0 by rw[HFE2.out,if_pos h3])
  clear h3
  go_wp2_with fail
  go_ret
  exact ⟨by first | (rw[HE.out]; done) | (rw[HE.out]; rfl),HAL.out.trans (HB2.out.mono HAL.out.size)⟩
inductive Ex where
 | mk (op:Int) (c:List UInt8) (t:List (Int×List UInt8)) (f:List UInt8) (a:List Ex)
namespace Ex
def op : Ex→Int | mk o _ _ _ _=>o
def c : Ex→List UInt8 | mk _ c _ _ _=>c
def t : Ex→List (Int×List UInt8) | mk _ _ t _ _=>t
def f : Ex→List UInt8 | mk _ _ _ f _=>f
def a : Ex→List Ex | mk _ _ _ _ a=>a
def none : Ex:=mk 0 [] [] [] []
end Ex
mutual
def ExIn (w:World):Ex→Value→Prop
 | .mk op c t f a,v=>∃tv ao cap,v=.agg #[.int .i64 op,.string ⟨c.toArray⟩,tv,.string ⟨f.toArray⟩,.slice ao a.length cap]∧TermsZ w tv t∧a.length≤cap∧cap≤maxLen∧(0<a.length→∃g o,ao=some ⟨g,o,none⟩∧g<w.heap.size∧CellsIn w a g o)
def CellsIn (w:World):List Ex→Nat→Nat→Prop
 | [],_,_=>True
 | x::l,g,o=>(∃v0 v1 v2 v3 v4,w.cell? ⟨g,o,Option.none⟩=some v0∧w.cell? ⟨g,o+1,Option.none⟩=some v1∧w.cell? ⟨g,o+2,Option.none⟩=some v2∧w.cell? ⟨g,o+3,Option.none⟩=some v3∧w.cell? ⟨g,o+4,Option.none⟩=some v4∧ExIn w x (.agg #[v0,v1,v2,v3,v4]))∧CellsIn w l g (o+5)
end
def ExsIn (w:World) (v:Value) (l:List Ex):Prop:=∃ao cap,v=.slice ao l.length cap∧l.length≤cap∧cap≤maxLen∧(0<l.length→∃g o,ao=some ⟨g,o,none⟩∧g<w.heap.size∧CellsIn w l g o)
theorem ExIn.out {w:World} {x:Ex} {v:Value} (h:ExIn w x v):∃tv ao cap,v=.agg #[.int .i64 x.op,.string ⟨x.c.toArray⟩,tv,.string ⟨x.f.toArray⟩,.slice ao x.a.length cap]∧TermsZ w tv x.t∧ExsIn w (.slice ao x.a.length cap) x.a:=by
 cases x
 rw[ExIn] at h
 obtain ⟨tv,ao,cap,e,ht,h1,h2,h3⟩:=h
 exact ⟨tv,ao,cap,e,ht,ao,cap,rfl,h1,h2,h3⟩
theorem ExIn.of {w:World} {x:Ex} {tv av:Value} (ht:TermsZ w tv x.t) (ha:ExsIn w av x.a):ExIn w x (.agg #[.int .i64 x.op,.string ⟨x.c.toArray⟩,tv,.string ⟨x.f.toArray⟩,av]):=by
 cases x
 rw[ExIn]
 obtain ⟨ao,cap,rfl,h1,h2,h3⟩:=ha
 exact ⟨tv,ao,cap,rfl,ht,h1,h2,h3⟩
mutual
theorem ExIn.below {w w':World} (hb:Below w.heap.size w w'):∀{x:Ex} {v:Value},ExIn w x v→ExIn w' x v
 | .mk op c t f a,v,h=>by
  rw[ExIn] at h⊢
  obtain ⟨tv,ao,cap,e,ht,h1,h2,h3⟩:=h
  refine ⟨tv,ao,cap,e,ht.below hb,h1,h2,fun h0=>?_⟩
  obtain ⟨g,o,e,hg,hc⟩:=h3 h0
  exact ⟨g,o,e,Nat.lt_of_lt_of_le hg hb.size,CellsIn.below hb hc⟩
theorem CellsIn.below {w w':World} (hb:Below w.heap.size w w'):∀{l:List Ex} {g o:Nat},CellsIn w l g o→CellsIn w' l g o
 | [],g,o,_=>by rw[CellsIn]; trivial
 | x::l,g,o,h=>by
  rw[CellsIn] at h⊢
  obtain ⟨⟨v0,v1,v2,v3,v4,c0,c1,c2,c3,c4,hx⟩,hl⟩:=h
  exact ⟨⟨v0,v1,v2,v3,v4,ZJ hb c0,ZJ hb c1,ZJ hb c2,ZJ hb c3,ZJ hb c4,ExIn.below hb hx⟩,CellsIn.below hb hl⟩
end
theorem ExsIn.below {w w':World} {v:Value} {l:List Ex} (h:ExsIn w v l) (hb:Below w.heap.size w w'):ExsIn w' v l:=by
 obtain ⟨ao,cap,e,h1,h2,h3⟩:=h
 refine ⟨ao,cap,e,h1,h2,fun h0=>?_⟩
 obtain ⟨g,o,e,hg,hc⟩:=h3 h0
 exact ⟨g,o,e,Nat.lt_of_lt_of_le hg hb.size,hc.below hb⟩
theorem CellsIn.at {w:World}:∀{l:List Ex} {g o j:Nat},CellsIn w l g o→j<l.length→∃tv ao cap,w.cell? ⟨g,o+j*5,none⟩=some (.int .i64 (l.getD j Ex.none).op)∧w.cell? ⟨g,o+j*5+1,none⟩=some (.string ⟨(l.getD j Ex.none).c.toArray⟩)∧w.cell? ⟨g,o+j*5+2,none⟩=some tv∧w.cell? ⟨g,o+j*5+3,none⟩=some (.string ⟨(l.getD j Ex.none).f.toArray⟩)∧w.cell? ⟨g,o+j*5+4,none⟩=some (.slice ao (l.getD j Ex.none).a.length cap)∧TermsZ w tv (l.getD j Ex.none).t∧ExsIn w (.slice ao (l.getD j Ex.none).a.length cap) (l.getD j Ex.none).a
 | [],g,o,j,_,hj=>by simp at hj
 | x::l,g,o,0,h,_=>by
  rw[CellsIn] at h
  obtain ⟨⟨v0,v1,v2,v3,v4,c0,c1,c2,c3,c4,hx⟩,-⟩:=h
  obtain ⟨tv,ao,cap,e,ht,ha⟩:=hx.out
  simp only[Value.agg.injEq] at e
  have e:=congrArg Array.toList e
  simp only[List.cons.injEq,and_true] at e
  obtain ⟨rfl,rfl,rfl,rfl,rfl⟩:=e
  exact ⟨_,ao,cap,by simpa using c0,by simpa using c1,by simpa using c2,by simpa using c3,by simpa using c4,ht,ha⟩
 | x::l,g,o,j+1,h,hj=>by
  rw[CellsIn] at h
  have ih:=CellsIn.at (j:=j) h.2 (by simpa using hj)
  rw[show o+5+j*5=o+(j+1)*5 by omega] at ih
  exact ih
theorem CellsIn.of {w:World} {g:Nat}:∀{l:List Ex} {o:Nat},(∀j,j<l.length→∃v0 v1 v2 v3 v4,w.cell? ⟨g,o+j*5,none⟩=some v0∧w.cell? ⟨g,o+j*5+1,none⟩=some v1∧w.cell? ⟨g,o+j*5+2,none⟩=some v2∧w.cell? ⟨g,o+j*5+3,none⟩=some v3∧w.cell? ⟨g,o+j*5+4,none⟩=some v4∧ExIn w (l.getD j Ex.none) (.agg #[v0,v1,v2,v3,v4]))→CellsIn w l g o
 | [],o,_=>by rw[CellsIn]; trivial
 | x::l,o,h=>by
  rw[CellsIn]
  refine ⟨by simpa using h 0 (by simp),CellsIn.of fun j hj=>?_⟩
  have k:=h (j+1) (by simpa using hj)
  rw[show o+(j+1)*5=o+5+j*5 by omega] at k
  exact k
theorem exs_none (w:World):ExsIn w (.slice none 0 0) []:=⟨none,0,rfl,Nat.le_refl _,by unfold maxLen; omega,fun h=>absurd h (by simp)⟩
theorem termsZ_none (w:World):TermsZ w (.slice none 0 0) []:=⟨none,0,rfl,Nat.le_refl _,by unfold maxLen; omega,fun h=>absurd h (by simp)⟩
open Go.Gx (LF GEx)
def tmap (t:List Rat):Int→Option Rat:=fun i=>if 0≤i then t[i.toNat]? else none
def formTexts (f:LF):List (Nat×List UInt8):=sumTerms (tmap f.t) f.t.length
mutual
def raw : GEx→Ex
 | .form f=>.mk 0 (numText f.c) (zTerms (formTexts f)) [] []
 | .scale k a=>.mk 2 [] [] (numText k) [raw a]
 | .add l=>.mk 1 [] [] [] (raws l)
 | .min l=>.mk 3 [] [] [] (raws l)
 | .max l=>.mk 4 [] [] [] (raws l)
 | .abs a=>.mk 5 [] [] [] [raw a]
def raws : List GEx→List Ex
 | []=>[]
 | a::l=>raw a::raws l
end
theorem raws_len : ∀l:List GEx,(raws l).length=l.length
 | []=>rfl
 | a::l=>by rw[raws,List.length_cons,raws_len l,List.length_cons]
theorem raws_at : ∀{l:List GEx} {j:Nat},j<l.length→(raws l).getD j Ex.none=raw (l.getD j (.add []))
 | [],j,h=>by simp at h
 | a::l,0,_=>by rw[raws]; rfl
 | a::l,j+1,h=>by
  rw[raws]
  exact raws_at (l:=l) (by simpa using h)
theorem raws_map : ∀l:List GEx,raws l=l.map raw
 | []=>rfl
 | a::l=>by rw[raws,raws_map l,List.map_cons]
theorem tmap_tot (t:List Rat) (i:Nat):tot (tmap t) (i:Int)=t.getD i 0:=by
 unfold tot tmap
 rw[if_pos (by omega),List.getD_eq_getElem?_getD]
 rfl
theorem worth_texts (f:LF) (i:Nat):worthAt (formTexts f) (i:Int)=f.t.getD i 0:=by
 unfold formTexts
 rw[worth_terms]
 by_cases h:i<f.t.length
 ·rw[if_pos (by omega),tmap_tot]
 ·rw[if_neg (by omega),List.getD_eq_getElem?_getD,List.getElem?_eq_none (by omega)]
  rfl
theorem add_texts {f g:LF} {n:Nat} (hf:f.t.length=n) (hg:g.t.length=n):sumTerms (addAll (formTexts f++formTexts g) noMap) n=formTexts (f.add g):=by
 have hl:(f.add g).t.length=n:=Go.Gx.add_len hf hg
 unfold formTexts
 rw[hl]
 refine sumTerms_congr fun i hi=>?_
 rw[tot_addAll,tot_noMap,Rat.zero_add,worth_append]
 have h1:=worth_texts f i
 have h2:=worth_texts g i
 unfold formTexts at h1 h2
 rw[h1,h2,tmap_tot]
 unfold LF.add
 rw[List.getD_eq_getElem?_getD,List.getD_eq_getElem?_getD,List.getD_eq_getElem?_getD,List.getElem?_zipWith,List.getElem?_eq_getElem (by omega),List.getElem?_eq_getElem (by omega)]
 rfl
theorem texts_sorted (m:Int→Option Rat):∀K,(sumTerms m K).Pairwise (fun a b=>a.1<b.1)∧∀p,p∈sumTerms m K→p.1<K
 | 0=>⟨List.Pairwise.nil,fun p hp=>by simp[sumTerms] at hp⟩
 | K+1=>by
  obtain ⟨h1,h2⟩:=texts_sorted m K
  have h3:∀p,p∈termOf (tot m K) K→p.1=K:=fun p hp=>by
   unfold termOf at hp
   split at hp
   ·simp at hp
   ·simp only[List.mem_singleton] at hp
    rw[hp]
  rw[sumTerms_succ]
  refine ⟨List.pairwise_append.2 ⟨h1,?_,fun a ha b hb=>by rw[h3 b hb]; exact h2 a ha⟩,fun p hp=>?_⟩
  ·unfold termOf
   split<;>simp
  ·rcases List.mem_append.1 hp with h | h
   ·exact Nat.lt_succ_of_lt (h2 p h)
   ·rw[h3 p h]; omega
theorem scale_texts {f:LF} {n:Nat} (hf:f.t.length=n) (k:Rat):sumTerms (scaleAll (formTexts f) k noMap) n=formTexts (f.scale k):=by
 have hl:(f.scale k).t.length=n:=Go.Gx.scale_len hf
 unfold formTexts
 rw[hl]
 refine sumTerms_congr fun i hi=>?_
 rw[tot_scaleAll _ _ _ (texts_sorted _ _).1 (fun p _=>rfl),tot_noMap,Rat.zero_add]
 have h1:=worth_texts f i
 unfold formTexts at h1
 rw[h1,tmap_tot]
 unfold LF.scale
 rw[List.getD_eq_getElem?_getD,List.getD_eq_getElem?_getD,List.getElem?_map]
 cases f.t[i]?<;>simp[Rat.zero_mul]
theorem texts_zero (n:Nat):formTexts (LF.zero n) = []:=by
 have h:∀K,sumTerms (tmap (List.replicate n 0)) K = []:=by
  intro K
  induction K with
  | zero=>rfl
  | succ K ih=>
   rw[sumTerms_succ,ih,tmap_tot,List.getD_eq_getElem?_getD,List.getElem?_replicate]
   split<;>rfl
 exact h _
theorem texts_of {f:LF} {p:Nat×List UInt8} (h:p∈formTexts f):p.1<f.t.length∧∃r,r∈f.t∧r≠0∧p.2=numText r:=by
 unfold formTexts at h
 have key:∀K,K≤f.t.length→p∈sumTerms (tmap f.t) K→p.1<K∧∃r,r∈f.t∧r≠0∧p.2=numText r:=by
  intro K
  induction K with
  | zero=>intro _ hp; simp[sumTerms] at hp
  | succ K ih=>
   intro hK hp
   rw[sumTerms_succ] at hp
   rcases List.mem_append.1 hp with hp | hp
   ·have:=ih (by omega) hp
    exact ⟨by omega,this.2⟩
   ·rw[tmap_tot,List.getD_eq_getElem?_getD,List.getElem?_eq_getElem (by omega)] at hp
    unfold termOf at hp
    split at hp
    ·simp at hp
    ·next hz=>
     simp only[List.mem_singleton] at hp
     subst hp
     exact ⟨by omega,_,List.getElem_mem _,fun e=>hz (by rw[show f.t[K]=0 from e]; rfl),rfl⟩
 exact key _ (Nat.le_refl _) h
theorem texts_len (f:LF):(formTexts f).length≤f.t.length:=terms_len _ _
theorem den_len {n:Nat} (h:n≤1000):(Lib.decDigits n).length≤21:=by
 have h1:=Lib.itoa_length_le (n:Int) (by omega) (by omega)
 unfold Lib.itoa at h1
 rw[if_neg (by omega)] at h1
 simpa using h1
theorem part_len {q:Rat} {M:Int} (h:q=Rat.divInt M 100) (h0:-1000000000000000≤M) (h1:M≤1000000000000000):(numText q).length≤100:=by
 have e:q.num*100=M*q.den:=by
  have h2:Rat.divInt q.num q.den=Rat.divInt M 100:=by rw[Rat.num_divInt_den]; exact h
  exact (Rat.divInt_eq_divInt_iff (by have:=q.den_pos; omega) (by decide)).1 h2
 have hd:q.den ∣ 100:=by
  have h3:q.den ∣ q.num.natAbs*100:=⟨M.natAbs,by
   have:=congrArg Int.natAbs e
   rw[Int.natAbs_mul,Int.natAbs_mul] at this
   rw[show q.num.natAbs*100=q.num.natAbs*Int.natAbs 100 from rfl,this,Nat.mul_comm]
   rfl⟩
  exact (Nat.Coprime.dvd_of_dvd_mul_left q.reduced.symm h3)
 have hd2:q.den≤100:=Nat.le_of_dvd (by decide) hd
 have hn:-1000000000000000≤q.num∧q.num≤1000000000000000:=by
  have hp:=q.den_pos
  obtain ⟨d,hdd⟩:∃d,d=q.den:=⟨_,rfl⟩
  rw[←hdd] at e hp hd2
  have h5:-100000000000000000≤M*d∧M*d≤100000000000000000:=by
   constructor
   ·have:=Int.mul_le_mul_of_nonneg_right (c:=(d:Int)) h0 (by omega); omega
   ·have:=Int.mul_le_mul_of_nonneg_right (c:=(d:Int)) h1 (by omega); omega
  omega
 have h6:=Lib.itoa_length_le q.num (by omega) (by omega)
 have h7:=den_len (n:=q.den) (by omega)
 unfold numText
 split
 ·omega
 ·rw[List.length_append,List.length_cons]; omega
def numTexts (l:List Rat):List ByteArray:=l.map fun q=>⟨(numText q).toArray⟩
theorem texts_val (l:List Rat):readsVal (numTexts l)=l:=by
 unfold readsVal numTexts
 rw[List.map_map]
 conv=>rhs; rw[←List.map_id l]
 refine List.map_congr_left fun q _=>?_
 exact read_num q
theorem texts_ok {l:List Rat} (h:∀q,q∈l→(numText q).length≤100):readsErr (numTexts l)=0∧∀s,s∈numTexts l→s.size≤100:=by
 have h2:∀s,s∈numTexts l→s.size≤100∧readErr s.data.toList 65536=0:=fun s hs=>by
  unfold numTexts at hs
  rw[List.mem_map] at hs
  obtain ⟨q,hq,rfl⟩:=hs
  have:=h q hq
  exact ⟨by simpa[ByteArray.size] using this,read_num_ok (by omega) (by omega)⟩
 refine ⟨reads_ok _ fun j hj=>?_,fun s hs=>(h2 s hs).1⟩
 rw[List.getD_eq_getElem?_getD,List.getElem?_eq_getElem hj]
 exact (h2 _ (List.getElem_mem hj)).2
theorem int_hundred (z:Int):(z:Rat)=Rat.divInt (z*100) 100:=by
 rw[Rat.divInt_eq_div,Rat.intCast_mul]
 grind
theorem whole_len {z:Int} (h0:-10000000000000≤z) (h1:z≤10000000000000):(numText (z:Rat)).length≤100:=part_len (int_hundred z) (by omega) (by omega)
theorem frac_len {a m:Int} (h0:-10000000000≤a) (h1:a≤10000000000) (h2:-100000000000000≤m) (h3:m≤100000000000000):(numText (sumQ [(a:Rat),(m:Rat)/((100:Int):Rat)])).length≤100:=by
 refine part_len (M:=a*100+m) ?_ (by omega) (by omega)
 have e:sumQ [(a:Rat),(m:Rat)/((100:Int):Rat)]=(a:Rat)+(m:Rat)/((100:Int):Rat):=by
  unfold sumQ
  simp only[List.foldl_cons,List.foldl_nil,Rat.zero_add]
 rw[e,Rat.divInt_eq_div]
 rw[Rat.intCast_add,Rat.intCast_mul]
 grind
theorem zero_len {a:Int} (h0:-10000000000≤a) (h1:a≤10000000000):(numText (sumQ [(a:Rat),0])).length≤100:=by
 have e:sumQ [(a:Rat),0]=(a:Rat):=by
  unfold sumQ
  simp only[List.foldl_cons,List.foldl_nil,Rat.zero_add,Rat.add_zero]
 rw[e]
 exact whole_len (by omega) (by omega)
end Go.Proofs.YtdcaaehapdhckaaGreatDoor
set_option maxRecDepth 100000
namespace Go.Proofs.YtdcaaehapdhckaaGreatDoor
open Go.RowKit Go.Num Go.Flow
open Go.Gx (LF GEx Den Dens LD M2 wt wts ab sumAb Over Overs linOf linsOf addOpt)
set_option maxHeartbeats 4000000

def Lite (x:GEx):Prop:=Den 20 x∧wt x≤1099511627776
def LiteF (f:LF):Prop:=LD 20 f∧f.wt≤1099511627776
theorem lite_num {r:Rat} (h:M2 20 r) (hw:ab r≤1099511627776):(numText r).length≤60∧-1152921504606846976≤r.num∧r.num≤1152921504606846976∧r.den≤1048576:=by
 obtain ⟨z,hz⟩:=h
 have hz:r*((1048576:Int):Rat)=z:=hz
 have hab:-1099511627776≤r∧r≤1099511627776:=by
  unfold ab at hw
  split at hw<;>constructor<;>grind
 have hz1:-1152921504606846976≤z∧z≤1152921504606846976:=by
  constructor
  ·rw[←Rat.intCast_le_intCast,←hz]
   have:=hab.1
   push_cast
   grind
  ·rw[←Rat.intCast_le_intCast,←hz]
   have:=hab.2
   push_cast
   grind
 have hq:r=Rat.divInt z 1048576:=by
  rw[Rat.divInt_eq_div,←hz]
  push_cast
  grind
 have e:r.num*1048576=z*r.den:=by
  have h2:Rat.divInt r.num r.den=Rat.divInt z 1048576:=by rw[Rat.num_divInt_den]; exact hq
  exact (Rat.divInt_eq_divInt_iff (by have:=r.den_pos; omega) (by decide)).1 h2
 have hd:r.den ∣ 1048576:=by
  have h3:r.den ∣ r.num.natAbs*1048576:=⟨z.natAbs,by
   have:=congrArg Int.natAbs e
   rw[Int.natAbs_mul,Int.natAbs_mul] at this
   rw[show r.num.natAbs*1048576=r.num.natAbs*Int.natAbs 1048576 from rfl,this,Nat.mul_comm]
   rfl⟩
  exact (Nat.Coprime.dvd_of_dvd_mul_left r.reduced.symm h3)
 have hd2:r.den≤1048576:=Nat.le_of_dvd (by decide) hd
 have hn:-1152921504606846976≤r.num∧r.num≤1152921504606846976:=by
  have hp:=r.den_pos
  obtain ⟨d,hdd⟩:∃d,d=r.den:=⟨_,rfl⟩
  rw[←hdd] at e hp hd2
  have h5:-1208925819614629174706176≤z*d∧z*d≤1208925819614629174706176:=by
   constructor
   ·have:=Int.mul_le_mul_of_nonneg_right (c:=(d:Int)) hz1.1 (by omega); omega
   ·have:=Int.mul_le_mul_of_nonneg_right (c:=(d:Int)) hz1.2 (by omega); omega
  omega
 have h6:=Lib.itoa_length_le r.num (by omega) (by omega)
 have h7:=Lib.itoa_length_le (r.den:Int) (by omega) (by omega)
 have h8:(Lib.decDigits r.den).length≤21:=by
  unfold Lib.itoa at h7
  rw[if_neg (by omega)] at h7
  simpa using h7
 refine ⟨?_,hn.1,hn.2,hd2⟩
 unfold numText
 split
 ·omega
 ·rw[List.length_append,List.length_cons]; omega
theorem sumAb_mem : ∀{l:List Rat} {r:Rat},r∈l→ab r≤sumAb l
 | [],r,h=>by simp at h
 | a::l,r,h=>by
  have h1:=Go.Gx.sumAb_nonneg l
  have h2:=Go.Gx.ab_nonneg a
  rw[sumAb]
  rcases List.mem_cons.1 h with rfl | h
  ·grind
  ·have:=sumAb_mem h
   grind
theorem liteF_texts {f:LF} (h:LiteF f):(numText f.c).length≤60∧∀r,r∈f.t→(numText r).length≤60:=by
 have h1:=h.2
 unfold LF.wt at h1
 have h2:=Go.Gx.sumAb_nonneg f.t
 have h3:=Go.Gx.ab_nonneg f.c
 refine ⟨(lite_num h.1.1 (by grind)).1,fun r hr=>(lite_num (h.1.2 r hr) ?_).1⟩
 have h4:=sumAb_mem hr
 grind
theorem liteF_zero (n:Nat):LiteF (LF.zero n):=⟨Go.Gx.ld_zero 20 n,by rw[Go.Gx.lf_zero]; grind⟩
theorem lite_form {f:LF} (h:Lite (.form f)):LiteF f:=by
 unfold Lite at h
 rw[Den,wt] at h
 exact h
theorem fine_texts {f:LF} {n:Nat} (h:LiteF f) (hn:f.t.length=n):∀p,p∈formTexts f→p.1<n∧p.2.length≤60∧readErr p.2 65536=0:=fun p hp=>by
 obtain ⟨h1,r,h2,-,h3⟩:=texts_of hp
 have h4:=(liteF_texts h).2 r h2
 rw[h3]
 exact ⟨by omega,h4,read_num_ok (by omega) (by omega)⟩
end Go.Proofs.YtdcaaehapdhckaaGreatDoor
set_option maxRecDepth 100000
namespace Go.Proofs.YtdcaaehapdhckaaGreatDoor
open List renaming take_succ_cons → zLd, take_zero → zLe
open Go.RowKit Go.Num Go.Flow
open Go.Gx (LF GEx mn mx spread bnd dot)
set_option maxHeartbeats 4000000

def spreadStep (B:List (Rat×Rat)) (p:Rat×Rat) (t:Nat×List UInt8):Rat×Rat:=(p.1+mn (readVal t.2*(B.getD t.1 (0,0)).1) (readVal t.2*(B.getD t.1 (0,0)).2),p.2+mx (readVal t.2*(B.getD t.1 (0,0)).1) (readVal t.2*(B.getD t.1 (0,0)).2))
theorem mn_self (a:Rat):mn a a=a:=by unfold mn; split<;>rfl
theorem mx_self (a:Rat):mx a a=a:=by unfold mx; split<;>rfl
theorem spread_take : ∀{t:List Rat} {B:List (Rat×Rat)} {K:Nat},K<t.length→K<B.length→spread (t.take (K+1)) B=((spread (t.take K) B).1+mn (t.getD K 0*(B.getD K (0,0)).1) (t.getD K 0*(B.getD K (0,0)).2),(spread (t.take K) B).2+mx (t.getD K 0*(B.getD K (0,0)).1) (t.getD K 0*(B.getD K (0,0)).2))
 | [],B,K,h,_=>by simp at h
 | a::t,[],K,_,h=>by simp at h
 | a::t,p::B,0,_,_=>by
  simp only[zLd,zLe,List.getD_cons_zero,spread]
  refine Prod.ext ?_ ?_<;>grind
 | a::t,p::B,K+1,h,k=>by
  have ih:=spread_take (t:=t) (B:=B) (K:=K) (by simpa using h) (by simpa using k)
  simp only[zLd,List.getD_cons_succ,spread] at ih⊢
  rw[ih]
  refine Prod.ext ?_ ?_<;>grind
theorem spread_zeros : ∀{t:List Rat} {B:List (Rat×Rat)},(∀i,t.getD i 0=0)→spread t B=(0,0)
 | [],B,_=>by unfold spread; rfl
 | a::t,[],_=>rfl
 | a::t,p::B,h=>by
  have ih:=spread_zeros (t:=t) (B:=B) fun i=>h (i+1)
  have h0:a=0:=h 0
  rw[spread,ih,h0,Rat.zero_mul,Rat.zero_mul,mn_self,mx_self]
  exact Prod.ext (Rat.zero_add 0) (Rat.zero_add 0)
theorem spread_cut : ∀{t:List Rat} {B:List (Rat×Rat)},spread t B=spread (t.take B.length) B
 | [],B=>by simp
 | a::t,[]=>by simp[spread]
 | a::t,p::B=>by
  rw[List.length_cons,List.take_succ_cons,spread,spread,spread_cut (t:=t) (B:=B)]
theorem terms_cut {t:List Rat} {m:Nat} (h:∀i,m≤i→t.getD i 0=0):∀d,sumTerms (tmap t) (m+d)=sumTerms (tmap t) m
 | 0=>rfl
 | d+1=>by
  rw[show m+(d+1)=m+d+1 by omega,sumTerms_succ,terms_cut h d,tmap_tot,h (m+d) (by omega)]
  unfold termOf
  rw[if_pos (show (0:Rat).num=0 from rfl),List.append_nil]
theorem fold_spread {t:List Rat} {B:List (Rat×Rat)} (c:Rat):∀{K:Nat},K≤t.length→K≤B.length→(sumTerms (tmap t) K).foldl (spreadStep B) (c,c)=(c+(spread (t.take K) B).1,c+(spread (t.take K) B).2)
 | 0,_,_=>by
  rw[List.take_zero]
  show (c,c)=(c+(0:Rat),c+(0:Rat))
  rw[Rat.add_zero]
 | K+1,h,k=>by
  rw[sumTerms_succ,List.foldl_append,fold_spread c (K:=K) (by omega) (by omega),spread_take (by omega) (by omega),tmap_tot]
  obtain ⟨a,ha⟩:∃a,a=t.getD K 0:=⟨_,rfl⟩
  rw[←ha]
  unfold termOf
  by_cases hz:a.num=0
  ·have h0:a=0:=Rat.num_eq_zero.1 hz
   rw[if_pos hz,h0,Rat.zero_mul,Rat.zero_mul,mn_self,mx_self,Rat.add_zero,Rat.add_zero]
   rfl
  ·rw[if_neg hz,List.foldl_cons,List.foldl_nil]
   unfold spreadStep
   rw[read_num]
   refine Prod.ext ?_ ?_<;>simp only[Rat.add_assoc]
theorem spread_texts {f:LF} {B:List (Rat×Rat)} (h:∀i,B.length≤i→f.t.getD i 0=0):(formTexts f).foldl (spreadStep B) (f.c,f.c)=bnd B (.form f):=by
 rw[bnd,spread_cut]
 unfold formTexts
 rcases Nat.le_total f.t.length B.length with hl | hl
 ·rw[fold_spread f.c (Nat.le_refl _) hl,List.take_length,List.take_of_length_le hl]
 ·obtain ⟨d,hd⟩:∃d,f.t.length=B.length+d:=⟨_,(by omega:f.t.length=B.length+(f.t.length-B.length))⟩
  rw[hd,terms_cut h d,fold_spread f.c hl (Nat.le_refl _)]
theorem dot_take : ∀{t x:List Rat} {K:Nat},K<t.length→K<x.length→dot (t.take (K+1)) x=dot (t.take K) x+t.getD K 0*x.getD K 0
 | [],x,K,h,_=>by simp at h
 | a::t,[],K,_,h=>by simp at h
 | a::t,p::x,0,_,_=>by
  simp only[zLd,zLe,List.getD_cons_zero,dot]
  grind
 | a::t,p::x,K+1,h,k=>by
  have ih:=dot_take (t:=t) (x:=x) (K:=K) (by simpa using h) (by simpa using k)
  simp only[zLd,List.getD_cons_succ,dot] at ih⊢
  rw[ih]
  grind
theorem dot_cut : ∀{t x:List Rat},dot t x=dot (t.take x.length) x
 | [],x=>by simp
 | a::t,[]=>by simp[dot]
 | a::t,p::x=>by
  rw[List.length_cons,List.take_succ_cons,dot,dot,dot_cut (t:=t) (x:=x)]
theorem fold_value {t x:List Rat} (c:Rat):∀{K:Nat},K≤t.length→K≤x.length→(sumTerms (tmap t) K).foldl (fun a p=>a+readVal p.2*x.getD p.1 0) c=c+dot (t.take K) x
 | 0,_,_=>by
  rw[List.take_zero]
  show c=c+dot [] x
  rw[show dot [] x=0 by cases x<;>rfl,Rat.add_zero]
 | K+1,h,k=>by
  rw[sumTerms_succ,List.foldl_append,fold_value c (K:=K) (by omega) (by omega),dot_take (by omega) (by omega),tmap_tot]
  obtain ⟨a,ha⟩:∃a,a=t.getD K 0:=⟨_,rfl⟩
  rw[←ha]
  unfold termOf
  by_cases hz:a.num=0
  ·have h0:a=0:=Rat.num_eq_zero.1 hz
   rw[if_pos hz,h0,Rat.zero_mul,Rat.add_zero]
   rfl
  ·rw[if_neg hz,List.foldl_cons,List.foldl_nil]
   rw[read_num,Rat.add_assoc]
theorem value_texts {f:LF} {x:List Rat} (h:∀i,x.length≤i→f.t.getD i 0=0):(formTexts f).foldl (fun a p=>a+readVal p.2*x.getD p.1 0) f.c=f.val x:=by
 unfold LF.val
 rw[dot_cut]
 unfold formTexts
 rcases Nat.le_total f.t.length x.length with hl | hl
 ·rw[fold_value f.c (Nat.le_refl _) hl,List.take_length,List.take_of_length_le hl]
 ·obtain ⟨d,hd⟩:∃d,f.t.length=x.length+d:=⟨_,(by omega:f.t.length=x.length+(f.t.length-x.length))⟩
  rw[hd,terms_cut h d,fold_value f.c hl (Nat.le_refl _)]
def Upto (m:Nat) (f:LF):Prop:=∀i,m≤i→f.t.getD i 0=0
theorem upto_len {f:LF} {n:Nat} (h:f.t.length≤n):Upto n f:=fun i hi=>by
 rw[List.getD_eq_getElem?_getD,List.getElem?_eq_none (by omega)]
 rfl
theorem upto_terms {f:LF} {m:Nat}:Upto m f↔∀p,p∈formTexts f→p.1<m:=by
 constructor
 ·intro h p hp
  have h1:∀K,p∈sumTerms (tmap f.t) K→f.t.getD p.1 0≠0:=by
   intro K
   induction K with
   | zero=>intro hp; simp[sumTerms] at hp
   | succ K ih=>
    intro hp
    rw[sumTerms_succ] at hp
    rcases List.mem_append.1 hp with hp | hp
    ·exact ih hp
    ·rw[tmap_tot] at hp
     unfold termOf at hp
     split at hp
     ·simp at hp
     ·next hz=>
      simp only[List.mem_singleton] at hp
      subst hp
      intro e
      exact hz (by rw[e]; rfl)
  rcases Nat.lt_or_ge p.1 m with h2 | h2
  ·exact h2
  ·exact absurd (h p.1 h2) (h1 _ hp)
 ·intro h i hi
  rcases Nat.lt_or_ge i f.t.length with hl | hl
  ·by_cases hz:f.t.getD i 0=0
   ·exact hz
   ·exfalso
    have h1:∀K,i<K→(i,numText (f.t.getD i 0))∈sumTerms (tmap f.t) K:=by
     intro K
     induction K with
     | zero=>intro h; omega
     | succ K ih=>
      intro hK
      rw[sumTerms_succ,List.mem_append]
      by_cases e:i=K
      ·right
       rw[←e,tmap_tot]
       unfold termOf
       rw[if_neg (fun h=>hz (Rat.num_eq_zero.1 h))]
       exact List.mem_singleton.2 rfl
      ·exact .inl (ih (by omega))
    have:=h _ (h1 f.t.length hl)
    simp only at this
    omega
  ·rw[List.getD_eq_getElem?_getD,List.getElem?_eq_none hl]
   rfl
end Go.Proofs.YtdcaaehapdhckaaGreatDoor
set_option maxRecDepth 100000
namespace Go.Proofs.YtdcaaehapdhckaaGreatDoor
open Go.RowKit Go.Num Go.Flow
open Go.Gx (LF GEx mn mx ab bnd bnds sumOf mostOf dep deps deps_iff Over Overs)
set_option maxHeartbeats 4000000

def opG : GEx→Int
 | .form _=>0
 | .add _=>1
 | .scale _ _=>2
 | .min _=>3
 | .max _=>4
 | .abs _=>5
def argG : GEx→List GEx
 | .form _=>[]
 | .scale _ a=>[a]
 | .add l=>l
 | .min l=>l
 | .max l=>l
 | .abs a=>[a]
theorem raw_op (x:GEx):(raw x).op=opG x:=by cases x<;>rw[raw]<;>rfl
theorem raw_args (x:GEx):(raw x).a=raws (argG x):=by cases x<;>rw[raw]<;>simp[Ex.a,argG,raws]
def fop (o:Int):Rat→Rat→Rat:=if o=3 then mn else if o=4 then mx else fun a b=>a+b
def foldB (f:Rat→Rat→Rat):List Rat→Rat
 | []=>0
 | a::l=>l.foldl f a
theorem foldB_snoc (f:Rat→Rat→Rat) {l:List Rat} (h:l≠[]) (a:Rat):foldB f (l++[a])=f (foldB f l) a:=by
 cases l with
 | nil=>exact absurd rfl h
 | cons b l=>simp[foldB,List.foldl_append]
theorem fold_add : ∀(l:List Rat) (a:Rat),l.foldl (fun a b=>a+b) a=a+sumOf l
 | [],a=>by simp[sumOf,Rat.add_zero]
 | b::l,a=>by rw[List.foldl_cons,fold_add l,sumOf,Rat.add_assoc]
theorem mn_assoc (a b c:Rat):mn (mn a b) c=mn a (mn b c):=by unfold mn; grind
theorem mx_assoc (a b c:Rat):mx (mx a b) c=mx a (mx b c):=by unfold mx; grind
theorem least_cons (a:Rat) {l:List Rat} (h:l≠[]):Go.Gx.leastOf (a::l)=mn a (Go.Gx.leastOf l):=by
 cases l with
 | nil=>exact absurd rfl h
 | cons b l=>rfl
theorem most_cons (a:Rat) {l:List Rat} (h:l≠[]):mostOf (a::l)=mx a (mostOf l):=by
 cases l with
 | nil=>exact absurd rfl h
 | cons b l=>rfl
theorem fold_mn : ∀(l:List Rat) (a:Rat),l.foldl mn a=Go.Gx.leastOf (a::l)
 | [],a=>rfl
 | b::l,a=>by
  rw[List.foldl_cons,fold_mn l,least_cons a (by simp)]
  cases l with
  | nil=>rfl
  | cons c l=>rw[least_cons (mn a b) (by simp),least_cons b (by simp),mn_assoc]
theorem fold_mx : ∀(l:List Rat) (a:Rat),l.foldl mx a=mostOf (a::l)
 | [],a=>rfl
 | b::l,a=>by
  rw[List.foldl_cons,fold_mx l,most_cons a (by simp)]
  cases l with
  | nil=>rfl
  | cons c l=>rw[most_cons (mx a b) (by simp),most_cons b (by simp),mx_assoc]
theorem foldB_sum (l:List Rat):foldB (fun a b=>a+b) l=sumOf l:=by
 cases l with
 | nil=>rfl
 | cons a l=>rw[foldB,fold_add,sumOf]
theorem foldB_mn (l:List Rat):foldB mn l=Go.Gx.leastOf l:=by
 cases l with
 | nil=>rfl
 | cons a l=>rw[foldB,fold_mn]
theorem foldB_mx (l:List Rat):foldB mx l=mostOf l:=by
 cases l with
 | nil=>rfl
 | cons a l=>rw[foldB,fold_mx]
theorem bnds_len (B:List (Rat×Rat)):∀l:List GEx,(bnds B l).length=l.length
 | []=>rfl
 | a::l=>by rw[bnds,List.length_cons,bnds_len B l,List.length_cons]
theorem bnds_at (B:List (Rat×Rat)):∀{l:List GEx} {j:Nat},j<l.length→(bnds B l).getD j (0,0)=bnd B (l.getD j (.add []))
 | [],j,h=>by simp at h
 | a::l,0,_=>by rw[bnds]; rfl
 | a::l,j+1,h=>by rw[bnds]; exact bnds_at B (l:=l) (by simpa using h)
def combTo (o:Int) (B:List (Rat×Rat)) (l:List GEx) (k:Nat):Rat×Rat:=(foldB (fop o) (((bnds B l).take k).map (·.1)),foldB (fop o) (((bnds B l).take k).map (·.2)))
theorem combTo_zero (o:Int) (B:List (Rat×Rat)) (l:List GEx):combTo o B l 0=(0,0):=rfl
theorem take_snoc (B:List (Rat×Rat)) {l:List GEx} {k:Nat} (h:k<l.length):(bnds B l).take (k+1)=(bnds B l).take k++[bnd B (l.getD k (.add []))]:=by
 rw[List.take_add_one,List.getElem?_eq_getElem (by rw[bnds_len]; exact h)]
 have e:=bnds_at B h
 rw[List.getD_eq_getElem?_getD,List.getElem?_eq_getElem (by rw[bnds_len]; exact h)] at e
 simp only[Option.getD_some] at e
 rw[e]
 rfl
theorem combTo_one (o:Int) (B:List (Rat×Rat)) {l:List GEx} (h:0<l.length):combTo o B l 1=bnd B (l.getD 0 (.add [])):=by
 unfold combTo
 rw[take_snoc B h]
 rfl
theorem combTo_succ (o:Int) (B:List (Rat×Rat)) {l:List GEx} {k:Nat} (h:k<l.length) (h0:0<k):combTo o B l (k+1)=(fop o (combTo o B l k).1 (bnd B (l.getD k (.add []))).1,fop o (combTo o B l k).2 (bnd B (l.getD k (.add []))).2):=by
 unfold combTo
 have hne:(bnds B l).take k≠[]:=by
  intro e
  have:=congrArg List.length e
  rw[List.length_take,bnds_len,List.length_nil] at this
  omega
 rw[take_snoc B h,List.map_append,List.map_append]
 rw[show [bnd B (l.getD k (.add []))].map (·.1) = [(bnd B (l.getD k (.add []))).1] from rfl,show [bnd B (l.getD k (.add []))].map (·.2) = [(bnd B (l.getD k (.add []))).2] from rfl]
 rw[foldB_snoc _ (by simpa using hne),foldB_snoc _ (by simpa using hne)]
theorem combTo_all (o:Int) (B:List (Rat×Rat)) (l:List GEx):combTo o B l l.length=(foldB (fop o) ((bnds B l).map (·.1)),foldB (fop o) ((bnds B l).map (·.2))):=by
 unfold combTo
 rw[List.take_of_length_le (by rw[bnds_len]; exact Nat.le_refl _)]
theorem comb_add (B:List (Rat×Rat)) (l:List GEx):combTo 1 B l l.length=bnd B (.add l):=by
 rw[combTo_all,bnd]
 show (foldB (fun a b=>a+b) _,foldB (fun a b=>a+b) _)=_
 rw[foldB_sum,foldB_sum]
theorem comb_min (B:List (Rat×Rat)) (l:List GEx):combTo 3 B l l.length=bnd B (.min l):=by
 rw[combTo_all,bnd]
 show (foldB mn _,foldB mn _)=_
 rw[foldB_mn,foldB_mn]
theorem comb_max (B:List (Rat×Rat)) (l:List GEx):combTo 4 B l l.length=bnd B (.max l):=by
 rw[combTo_all,bnd]
 show (foldB mx _,foldB mx _)=_
 rw[foldB_mx,foldB_mx]
mutual
def bsz : GEx→Nat
 | .form f=>62+f.t.length*66
 | .scale _ a=>bsz a+65
 | .add l=>2+bszs l
 | .min l=>2+bszs l
 | .max l=>2+bszs l
 | .abs a=>bsz a+3
def bszs : List GEx→Nat
 | []=>0
 | a::l=>bsz a+1+bszs l
end
theorem bsz_two : ∀x:GEx,2≤bsz x
 | .form f=>by rw[bsz]; omega
 | .scale _ a=>by rw[bsz]; omega
 | .add l=>by rw[bsz]; omega
 | .min l=>by rw[bsz]; omega
 | .max l=>by rw[bsz]; omega
 | .abs a=>by rw[bsz]; omega
theorem bszs_take : ∀{l:List GEx} {k:Nat},k<l.length→bszs (l.take (k+1))=bszs (l.take k)+(bsz (l.getD k (.add []))+1)
 | [],k,h=>by simp at h
 | a::l,0,_=>by simp[bszs]
 | a::l,k+1,h=>by
  have ih:=bszs_take (l:=l) (k:=k) (by simpa using h)
  rw[List.take_succ_cons,bszs,ih,List.take_succ_cons,bszs,List.getD_cons_succ]
  omega
theorem bszs_le : ∀{l:List GEx} {k:Nat},bszs (l.take k)≤bszs l
 | [],k=>by simp
 | a::l,0=>by simp[bszs]
 | a::l,k+1=>by
  have ih:=bszs_le (l:=l) (k:=k)
  rw[List.take_succ_cons,bszs,bszs]
  omega
def asz (x:GEx):Nat:=2+bszs (argG x)
theorem asz_le {x:GEx} (h:opG x≠0):asz x≤bsz x:=by
 cases x with
 | form f=>exact absurd rfl h
 | scale k a=>simp[asz,argG,bsz,bszs]; omega
 | add l=>simp[asz,argG,bsz]
 | min l=>simp[asz,argG,bsz]
 | max l=>simp[asz,argG,bsz]
 | abs a=>simp[asz,argG,bsz,bszs]; omega
theorem arg_dep {x:GEx} {j:Nat} (hj:j<(argG x).length):dep ((argG x).getD j (.add []))<dep x:=by
 have key:∀(l:List GEx) (j:Nat),j<l.length→dep (l.getD j (.add []))≤deps l:=fun l j hj=>by
  rw[List.getD_eq_getElem?_getD,List.getElem?_eq_getElem hj]
  exact (deps_iff.1 (Nat.le_refl (deps l))) _ (List.getElem_mem hj)
 cases x with
 | form f=>simp[argG] at hj
 | scale k a=>
   obtain rfl:j=0:=by simpa[argG] using hj
   rw[dep]; exact Nat.lt_succ_self _
 | add l=>rw[dep]; exact Nat.lt_succ_of_le (key l j hj)
 | min l=>rw[dep]; exact Nat.lt_succ_of_le (key l j hj)
 | max l=>rw[dep]; exact Nat.lt_succ_of_le (key l j hj)
 | abs a=>
   obtain rfl:j=0:=by simpa[argG] using hj
   rw[dep]; exact Nat.lt_succ_self _
theorem overs_at {n:Nat}:∀{l:List GEx} {j:Nat},Overs n l→j<l.length→Over n (l.getD j (.add []))
 | [],j,_,h=>by simp at h
 | a::l,0,h,_=>by rw[Overs] at h; exact h.1
 | a::l,j+1,h,hj=>by rw[Overs] at h; exact overs_at (l:=l) h.2 (by simpa using hj)
theorem arg_over {n:Nat} {x:GEx} {j:Nat} (h:Over n x) (hj:j<(argG x).length):Over n ((argG x).getD j (.add [])):=by
 cases x with
 | form f=>simp[argG] at hj
 | scale k a=>
   obtain rfl:j=0:=by simpa[argG] using hj
   rw[Over] at h; exact h
 | add l=>rw[Over] at h; exact overs_at h.2 hj
 | min l=>rw[Over] at h; exact overs_at h.2 hj
 | max l=>rw[Over] at h; exact overs_at h.2 hj
 | abs a=>
   obtain rfl:j=0:=by simpa[argG] using hj
   rw[Over] at h; exact h
open Go.Gx (Den Dens wt wts M2) in
theorem den_most : ∀{e:Nat} {a:GEx},Den e a→e≤20→Den 20 a:=fun {e} {a} h he=>by
 have:=Go.Gx.den_more h (20-e)
 rwa[show 20-e+e=20 by omega] at this
open Go.Gx (Den Dens wt wts) in
theorem lites_at : ∀{l:List GEx} {j:Nat},Dens 20 l→wts l≤1099511627776→j<l.length→Lite (l.getD j (.add []))
 | [],j,_,_,h=>by simp at h
 | a::l,0,h,k,_=>by
  rw[Dens] at h
  rw[wts] at k
  have:=Go.Gx.wts_nonneg l
  exact ⟨h.1,by show wt a≤_; grind⟩
 | a::l,j+1,h,k,hj=>by
  rw[Dens] at h
  rw[wts] at k
  have:=Go.Gx.wt_nonneg a
  exact lites_at (l:=l) h.2 (by grind) (by simpa using hj)
open Go.Gx (Den Dens wt wts big) in
theorem arg_lite {x:GEx} {j:Nat} (h:Lite x) (hj:j<(argG x).length):Lite ((argG x).getD j (.add [])):=by
 cases x with
 | form f=>simp[argG] at hj
 | scale k a=>
  obtain rfl:j=0:=by simpa[argG] using hj
  obtain ⟨h1,h2⟩:=h
  rw[Den] at h1
  rw[wt] at h2
  obtain ⟨d,r,e,-,h3⟩:=h1
  have h4:=Go.Gx.le_big k (Go.Gx.wt_nonneg a)
  exact ⟨den_most h3 (by omega),by show wt a≤_; grind⟩
 | add l=>obtain ⟨h1,h2⟩:=h; rw[Den] at h1; rw[wt] at h2; exact lites_at h1 h2 hj
 | min l=>obtain ⟨h1,h2⟩:=h; rw[Den] at h1; rw[wt] at h2; exact lites_at h1 h2 hj
 | max l=>obtain ⟨h1,h2⟩:=h; rw[Den] at h1; rw[wt] at h2; exact lites_at h1 h2 hj
 | abs a=>
  obtain rfl:j=0:=by simpa[argG] using hj
  obtain ⟨h1,h2⟩:=h
  rw[Den] at h1
  rw[wt] at h2
  exact ⟨h1,h2⟩
mutual
def UptoG (m:Nat):GEx→Prop
 | .form f=>Upto m f
 | .scale _ a=>UptoG m a
 | .add l=>UptoGs m l
 | .min l=>UptoGs m l
 | .max l=>UptoGs m l
 | .abs a=>UptoG m a
def UptoGs (m:Nat):List GEx→Prop
 | []=>True
 | a::l=>UptoG m a∧UptoGs m l
end
theorem upto_at {m:Nat}:∀{l:List GEx} {j:Nat},UptoGs m l→j<l.length→UptoG m (l.getD j (.add []))
 | [],j,_,h=>by simp at h
 | a::l,0,h,_=>by rw[UptoGs] at h; exact h.1
 | a::l,j+1,h,hj=>by rw[UptoGs] at h; exact upto_at (l:=l) h.2 (by simpa using hj)
theorem arg_upto {m:Nat} {x:GEx} (h:UptoG m x) {j:Nat} (hj:j<(argG x).length):UptoG m ((argG x).getD j (.add [])):=by
 cases x with
 | form f=>simp[argG] at hj
 | scale k a=>
   obtain rfl:j=0:=by simpa[argG] using hj
   rw[UptoG] at h; exact h
 | add l=>rw[UptoG] at h; exact upto_at h hj
 | min l=>rw[UptoG] at h; exact upto_at h hj
 | max l=>rw[UptoG] at h; exact upto_at h hj
 | abs a=>
   obtain rfl:j=0:=by simpa[argG] using hj
   rw[UptoG] at h; exact h
end Go.Proofs.YtdcaaehapdhckaaGreatDoor
set_option maxRecDepth 100000
namespace Go.Proofs.YtdcaaehapdhckaaGreatDoor
open Go.RowKit Go.Num Go.Flow
open Go.Gx (LF GEx Den Dens LD wt wts Over Overs linOf linsOf addOpt)
set_option maxHeartbeats 4000000

def foldF (n:Nat) (l:List GEx) (o:LF):LF:=l.foldl (fun o a=>o.add ((linOf n a).getD (LF.zero n))) o
theorem addOpt_some {n:Nat}:∀{l:List GEx} {o f:LF},addOpt n (linsOf n l) (some o)=some f→(∀a,a∈l→∃g,linOf n a=some g)∧f=foldF n l o
 | [],o,f,e=>by
  have h:o=f:=by simpa[linsOf,addOpt] using e
  exact ⟨fun a ha=>by simp at ha,h.symm⟩
 | a::l,o,f,e=>by
  rw[linsOf] at e
  cases hl:linOf n a with
  | none=>rw[hl] at e; cases l<;>simp[addOpt] at e
  | some g=>
   rw[hl,addOpt] at e
   obtain ⟨h1,h2⟩:=addOpt_some e
   refine ⟨fun b hb=>?_,?_⟩
   ·rcases List.mem_cons.1 hb with rfl | hb
    ·exact ⟨g,hl⟩
    ·exact h1 b hb
   ·rw[h2]
    unfold foldF
    rw[List.foldl_cons,hl]
    rfl
theorem addOpt_of {n:Nat}:∀{l:List GEx} {o:LF},(∀a,a∈l→∃g,linOf n a=some g)→addOpt n (linsOf n l) (some o)=some (foldF n l o)
 | [],o,_=>by simp[linsOf,addOpt,foldF]
 | a::l,o,h=>by
  obtain ⟨g,hg⟩:=h a (by simp)
  rw[linsOf,hg,addOpt,addOpt_of fun b hb=>h b (by simp[hb])]
  unfold foldF
  rw[List.foldl_cons,hg]
  rfl
def preF (n:Nat) (l:List GEx) (k:Nat):LF:=foldF n (l.take k) (LF.zero n)
theorem preF_succ {n:Nat} {l:List GEx} {k:Nat} (h:k<l.length) {g:LF} (hg:linOf n (l.getD k (.add []))=some g):preF n l (k+1)=(preF n l k).add g:=by
 rw[List.getD_eq_getElem?_getD,List.getElem?_eq_getElem h] at hg
 simp only[Option.getD_some] at hg
 unfold preF foldF
 rw[List.take_add_one,List.getElem?_eq_getElem h,List.foldl_append]
 simp only[Option.toList_some,List.foldl_cons,List.foldl_nil]
 rw[hg]
 rfl
theorem lite_lin {n:Nat} {a:GEx} {f:LF} (ho:Over n a) (hl:Lite a) (h:linOf n a=some f):LiteF f∧f.t.length=n:=
 ⟨⟨Go.Gx.lin_den hl.1 h,Rat.le_trans (Go.Gx.lin_wt ho h) hl.2⟩,(Go.Gx.linOf_val [] ho h).1⟩
theorem lite_pre {n:Nat} {l:List GEx} (ho:∀a,a∈l→Over n a) (hd:∀a,a∈l→Den 20 a) (hw:wts l≤1099511627776) (hs:∀a,a∈l→∃g,linOf n a=some g) (k:Nat):LiteF (preF n l k)∧(preF n l k).t.length=n:=by
 have hm:∀a,a∈l.take k→a∈l:=fun a ha=>List.mem_of_mem_take ha
 have h:=addOpt_of (n:=n) (l:=l.take k) (o:=LF.zero n) fun a ha=>hs a (hm a ha)
 have h1:=Go.Gx.addOpt_den (e:=20) (Go.Gx.ld_zero 20 n) (fun a ha g hg=>Go.Gx.lin_den (hd a (hm a ha)) hg) h
 have h2:=Go.Gx.addOpt_wt (fun a ha g hg=>Go.Gx.lin_wt (ho a (hm a ha)) hg) h
 have h3:(preF n l k).t.length=n:=by
  have key:∀(m:List GEx) (o:LF),(∀a,a∈m→a∈l)→o.t.length=n→(foldF n m o).t.length=n:=by
   intro m
   induction m with
   | nil=>intro o _ h; exact h
   | cons a m ih=>
    intro o hm ho'
    unfold foldF
    rw[List.foldl_cons]
    obtain ⟨g,hg⟩:=hs a (hm a (by simp))
    refine ih _ (fun b hb=>hm b (by simp[hb])) ?_
    rw[hg]
    exact Go.Gx.add_len ho' (Go.Gx.linOf_val [] (ho a (hm a (by simp))) hg).1
  exact key _ _ hm (Go.Gx.zero_len n)
 refine ⟨⟨h1,?_⟩,h3⟩
 show (foldF n (l.take k) (LF.zero n)).wt≤_
 rw[Go.Gx.lf_zero] at h2
 have h4:wts (l.take k)≤wts l:=by
  have e:wts l=wts (l.take k)+wts (l.drop k):=by rw[←Go.Gx.wts_app,List.take_append_drop]
  have:=Go.Gx.wts_nonneg (l.drop k)
  grind
 cases hk:l.take k with
 | nil=>
  unfold foldF
  rw[List.foldl_nil,Go.Gx.lf_zero]
  grind
 | cons a m=>
  rw[hk] at h2 h4
  rw[List.length_cons] at h2
  push_cast at h2
  have:(0:Rat)≤(m.length:Rat):=by
   have:=Rat.natCast_nonneg (a:=m.length)
   exact this
  grind
theorem lin_scale {n:Nat} {k:Rat} {a:GEx} {f:LF} (h:linOf n (.scale k a)=some f) (hk:k≠0):∃g,linOf n a=some g∧f=g.scale k:=by
 rw[linOf,if_neg hk] at h
 obtain ⟨g,hg,rfl⟩:=Option.map_eq_some_iff.1 h
 exact ⟨g,hg,rfl⟩
theorem lin_scale0 {n:Nat} {a:GEx} {f:LF} (h:linOf n (.scale 0 a)=some f):f=LF.zero n:=by
 rw[linOf,if_pos rfl] at h
 simpa using h.symm
theorem lin_more {n:Nat} {x:GEx} {f:LF} (h:linOf n x=some f) (h0:opG x≠0) (h2:opG x≠2):(opG x=1∨(argG x).length≤1)∧opG x≠5∧(∀a,a∈argG x→∃g,linOf n a=some g)∧f=preF n (argG x) (argG x).length:=by
 have key:∀l:List GEx,addOpt n (linsOf n l) (some (LF.zero n))=some f→(∀a,a∈l→∃g,linOf n a=some g)∧f=preF n l l.length:=fun l e=>by
  obtain ⟨h1,h2⟩:=addOpt_some e
  exact ⟨h1,by unfold preF; rw[List.take_length]; exact h2⟩
 cases x with
 | form f=>exact absurd rfl h0
 | scale k a=>exact absurd rfl h2
 | abs a=>simp[linOf] at h
 | add l=>rw[linOf] at h; exact ⟨.inl rfl,by simp[opG],key l h⟩
 | min l=>
  rw[linOf] at h
  by_cases hl:l.length>1
  ·rw[if_pos hl] at h; cases h
  ·rw[if_neg hl] at h; exact ⟨.inr (by simpa[argG] using hl),by simp[opG],key l h⟩
 | max l=>
  rw[linOf] at h
  by_cases hl:l.length>1
  ·rw[if_pos hl] at h; cases h
  ·rw[if_neg hl] at h; exact ⟨.inr (by simpa[argG] using hl),by simp[opG],key l h⟩
theorem args_lite {n:Nat} {x:GEx} (ho:Over n x) (hl:Lite x) (h0:opG x≠0) (h2:opG x≠2) (h5:opG x≠5):(∀a,a∈argG x→Over n a)∧(∀a,a∈argG x→Den 20 a)∧wts (argG x)≤1099511627776:=by
 obtain ⟨l1,l2⟩:=hl
 have ov:∀l:List GEx,Overs n l→∀a,a∈l→Over n a:=fun l h a ha=>by
  obtain ⟨j,hj,rfl⟩:=List.getElem_of_mem ha
  have:=overs_at h hj
  rwa[List.getD_eq_getElem?_getD,List.getElem?_eq_getElem hj] at this
 cases x with
 | form f=>exact absurd rfl h0
 | scale k a=>exact absurd rfl h2
 | abs a=>exact absurd rfl h5
 | add l=>rw[Over] at ho; rw[Den] at l1; rw[wt] at l2; exact ⟨ov l ho.2,Go.Gx.Dens_iff.1 l1,l2⟩
 | min l=>rw[Over] at ho; rw[Den] at l1; rw[wt] at l2; exact ⟨ov l ho.2,Go.Gx.Dens_iff.1 l1,l2⟩
 | max l=>rw[Over] at ho; rw[Den] at l1; rw[wt] at l2; exact ⟨ov l ho.2,Go.Gx.Dens_iff.1 l1,l2⟩
end Go.Proofs.YtdcaaehapdhckaaGreatDoor
set_option maxRecDepth 100000
namespace Go.Proofs.YtdcaaehapdhckaaGreatDoor
open List renaming setIfInBounds_toArray → zLa, set_cons_zero → zLb, set_cons_succ → zLc
open FlowR renaming putSel → zFp
open Act renaming put → zAp
open Nat renaming zero_add → zNz
open Flow.Steps renaming cons → zSc, nil → zSn
open FlowR.Step renaming of → zSo
open Go.RowKit Go.Num Go.Flow
set_option maxHeartbeats 4000000
set_option linter.unusedVariables false

theorem exs_one {w:World} {b:Nat} {x:Ex} {v0 v1 v2 v3 v4:Value} {t:TypeId} (h:w.heap[b]?=some (.cells #[v0,v1,v2,v3,v4] t (0,0))) (hx:ExIn w x (.agg #[v0,v1,v2,v3,v4])):ExsIn w (.slice (some ⟨b,0,none⟩) 1 1) [x]:=by
 refine ⟨_,1,rfl,Nat.le_refl _,by unfold maxLen; omega,fun _=>⟨b,0,rfl,ZL h,CellsIn.of fun j hj=>?_⟩⟩
 obtain rfl:j=0:=by simpa using hj
 exact ⟨v0,v1,v2,v3,v4,ZI h 0,ZI h 1,ZI h 2,ZI h 3,ZI h 4,hx⟩
theorem exs_two {w:World} {b:Nat} {x y:Ex} {v0 v1 v2 v3 v4 u0 u1 u2 u3 u4:Value} {t:TypeId} (h:w.heap[b]?=some (.cells #[v0,v1,v2,v3,v4,u0,u1,u2,u3,u4] t (0,0))) (hx:ExIn w x (.agg #[v0,v1,v2,v3,v4])) (hy:ExIn w y (.agg #[u0,u1,u2,u3,u4])):ExsIn w (.slice (some ⟨b,0,none⟩) 2 2) [x,y]:=by
 refine ⟨_,2,rfl,Nat.le_refl _,by unfold maxLen; omega,fun _=>⟨b,0,rfl,ZL h,CellsIn.of fun j hj=>?_⟩⟩
 have hj:j<2:=hj
 match j,hj with
 | 0,_=>exact ⟨v0,v1,v2,v3,v4,ZI h 0,ZI h 1,ZI h 2,ZI h 3,ZI h 4,hx⟩
 | 1,_=>exact ⟨u0,u1,u2,u3,u4,ZI h 5,ZI h 6,ZI h 7,ZI h 8,ZI h 9,hy⟩
theorem five_set {w:World} {b:Nat} {x0 x1 x2 x3 x4:Value} {t:TypeId} (h:w.heap[b]?=some (.cells #[x0,x1,x2,x3,x4] t (0,0))) (u0 u1 u2 u3 u4:Value):(((((w.setCell ⟨b,0,none⟩ u0).setCell ⟨b,1,none⟩ u1).setCell ⟨b,2,none⟩ u2).setCell ⟨b,3,none⟩ u3).setCell ⟨b,4,none⟩ u4).heap[b]?=some (.cells #[u0,u1,u2,u3,u4] t (0,0)):=by
 simp[World.setCell,Array.getElem?_modify,h]
theorem below_five {w w':World} {B b:Nat} (h:Below B w w') (hb:B≤b) (u0 u1 u2 u3 u4:Value):Below B w (((((w'.setCell ⟨b,0,none⟩ u0).setCell ⟨b,1,none⟩ u1).setCell ⟨b,2,none⟩ u2).setCell ⟨b,3,none⟩ u3).setCell ⟨b,4,none⟩ u4):=
 ((((h.setCell (p:=⟨b,0,none⟩) hb _).setCell (p:=⟨b,1,none⟩) hb _).setCell (p:=⟨b,2,none⟩) hb _).setCell (p:=⟨b,3,none⟩) hb _).setCell (p:=⟨b,4,none⟩) hb _
theorem ex_shape {w:World} {x:Ex} {v:Value} (h:ExIn w x v):∃s0 s1 ta tn tc aa an ac,v=.agg #[.int .i64 x.op,.string s0,.slice ta tn tc,.string s1,.slice aa an ac]:=by
 obtain ⟨tv,ao,cap,rfl,⟨ta,tc,rfl,-⟩,-⟩:=h.out
 exact ⟨_,_,_,_,_,_,_,_,rfl⟩
theorem mplain_val {w:World} (s:ByteArray) (ao:Option Addr) (n ca:Nat):Calls Tryz.prog 46 #[.agg #[.string s,.slice ao n ca]] w fun e w'=>e=.returned (.agg #[.int .i64 0,.string s,.slice ao n ca,.string ⟨#[]⟩,.slice none 0 0])∧Below w.heap.size w w':=by
 obtain ⟨wa,ba,bc,hwa,hba,hbc,hal,k0,k1⟩:=new_two w #[.string s,.slice ao n ca] #[.int .i64 0,.string ⟨#[]⟩,.slice none 0 0,.string ⟨#[]⟩,.slice none 0 0] 27 30
 have HW:=ZH (ZN hwa (ZN hba hbc))
 have HB:=ZH (below_five hal (show w.heap.size≤bc by omega))
 obtain ⟨x0,x1⟩:=cells2 (ZR _ wa) k0
 obtain ⟨z0,z1,z2,z3,z4⟩:=cells5 (ZR _ wa) k1
 have f0:=ZF k1 0
 have f1:=ZF k1 1
 have f2:=ZF k1 2
 have f3:=ZF k1 3
 have f4:=ZF k1 4
 clear hwa hba hbc hal k0 k1
 go_enter Tryz.func46,Tryz.ntmps46
 go_upto_region 1 with fail
 rw[←HW.out.1,←HW.out.2.2,←HW.out.2.1]
 clear HW
 go_wp2_with fail
 exact bodyPost_ret (v:=.agg #[.int .i64 0,.string s,.slice ao n ca,.string ⟨#[]⟩,.slice none 0 0]) (by simp[results,Tryz.results46,go_sem,z0,z1,z2,z3,z4]) rfl ⟨rfl,HB.out _ _ _ _ _⟩
theorem mplain_any {w:World} {v:Value} {c:List UInt8} {L:List (Int×List UInt8)} (hf:FormZ w v c L):Calls Tryz.prog 46 #[v] w fun e w'=>∃v',e=.returned v'∧ExIn w' (.mk 0 c L [] []) v'∧Below w.heap.size w w':=by
 obtain ⟨tv,rfl,ht⟩:=hf
 obtain ⟨ao,ca,rfl,-⟩:=id ht
 refine (mplain_val _ _ _ _).mono fun e w' ⟨he,hb⟩=>⟨_,he,?_,hb⟩
 exact ExIn.of (w:=w') (x:=.mk 0 c L [] []) (ht.below hb) (exs_none w')
def oneTxt : List UInt8:=[49]
def nilTxt : List UInt8:=[48]
theorem psingle_any {w:World} (d:Int):Calls Tryz.prog 33 #[.int .i64 d] w fun e w'=>∃v',e=.returned v'∧ExIn w' (.mk 0 nilTxt [(d,oneTxt)] [] []) v'∧Below w.heap.size w w':=by
 obtain ⟨wf,bc,bt,hwf,hbc,hbt,hal,k0,k1⟩:=new_two w #[.int .i64 0,.string ⟨#[48]⟩,.slice (some ⟨w.heap.size+1,0,none⟩) 1 1,.string ⟨#[]⟩,.slice none 0 0] #[.int .i64 d,.string ⟨#[49]⟩] 30 85
 have hex:ExIn wf (.mk 0 nilTxt [(d,oneTxt)] [] []) (.agg #[.int .i64 0,.string ⟨#[48]⟩,.slice (some ⟨bt,0,none⟩) 1 1,.string ⟨#[]⟩,.slice none 0 0]):=by
  refine ExIn.of (x:=.mk 0 nilTxt [(d,oneTxt)] [] []) ⟨_,1,rfl,Nat.le_refl _,by unfold maxLen; omega,fun _=>⟨bt,0,rfl,ZL k1,fun j hj=>?_⟩⟩ (exs_none wf)
  obtain rfl:j=0:=by simpa[Ex.t] using hj
  exact ⟨ZI k1 0,ZI k1 1⟩
 rw[hbt] at hex
 have HF:=ZH (ZN hex hal)
 rw[hbc] at k0
 have HK:=ZH k0
 have HWF:=ZH hwf
 clear hbc hbt hal k0 k1 hwf hex
 go_enter Tryz.func33,Tryz.ntmps33
 go_wp2_with fail
 rw[←HWF.out]
 obtain ⟨z0,z1,z2,z3,z4⟩:=cells5 (ZR _ wf) HK.out
 exact bodyPost_ret (v:=.agg #[.int .i64 0,.string ⟨#[48]⟩,.slice (some ⟨w.heap.size+1,0,none⟩) 1 1,.string ⟨#[]⟩,.slice none 0 0]) (by simp[results,Tryz.results33,go_sem,z0,z1,z2,z3,z4]) rfl ⟨_,rfl,HF.out⟩
theorem ptimes_any {w:World} (hg:Glob w) {x:Ex} {v:Value} (hx:ExIn w x v) {vr:Value} {r:Rat} {k:Nat} (hr:RtIn w vr r k) (hk:k≤900000):Calls Tryz.prog 34 #[v,vr] w fun e w'=>∃v',e=.returned v'∧ExIn w' (.mk 2 [] [] (numText r) [x]) v'∧Below w.heap.size w w':=by
 obtain ⟨s0,s1,ta,tn,tc,aa,an,ac,rfl⟩:=ex_shape hx
 obtain ⟨p1,a1,c1,l1,p2,a2,c2,l2,rfl⟩:=rt_shape hr
 obtain ⟨o,ho⟩:∃o,o=x.op:=⟨_,rfl⟩
 rw[←ho] at hx⊢
 obtain ⟨wa,bx,br,bc,hwa,hbx,hbr,hbc,hal,k0,k1,k2⟩:=new_three w #[.int .i64 o,.string s0,.slice ta tn tc,.string s1,.slice aa an ac] #[.bool p1,.slice a1 c1 l1,.bool p2,.slice a2 c2 l2] #[.int .i64 0,.string ⟨#[]⟩,.slice none 0 0,.string ⟨#[]⟩,.slice none 0 0] 30 47 30
 have HG:=ZH (hg.below hal)
 have HX0:=ZH hx
 have HX:=ZH (ZN (hx.below hal) (ZN (hr.below hal) hk))
 have HK:=ZH (ZN k0 (ZN k1 k2))
 have HAL:=ZH (ZN hal (show w.heap.size≤bc∧bc<wa.heap.size from ⟨by omega,ZL k2⟩))
 have HWA:=ZH (ZR wa.heap.size wa)
 have HW:=ZH (ZN hwa (ZN hbx (ZN hbr hbc)))
 obtain ⟨NT,hNT⟩:∃s:ByteArray,s=⟨(numText r).toArray⟩:=⟨_,rfl⟩
 have HNT:=ZH hNT
 clear hwa hbx hbr hbc hal k0 k1 k2 hx hr hk hg ho hNT
 go_enter Tryz.func34,Tryz.ntmps34
 go_upto_region 1 with fail
 rw[←HW.out.1,←HW.out.2.2.2,←HW.out.2.2.1,←HW.out.2.1]
 clear HW
 refine FlowR.wp_region_sel (fun a b=>Below a.heap.size a b) (fun a=>ZR _ a) (fun _ _ _ h k=>h.trans (k.mono h.size)) [0,1,2,3,4] [false,false,false,false,false,false] [true,true,true,true,true,false] (fun i9 v w'=>match i9 with
  | 0=>v=.agg #[.bool p1,.slice a1 c1 l1,.bool p2,.slice a2 c2 l2]
  | 1=>v=.string NT
  | 2=>v=.agg #[.int .i64 o,.string s0,.slice ta tn tc,.string s1,.slice aa an ac]
  | 3=>∃b9:Nat,v=.slice (some ⟨b9,0,none⟩) 1 1∧wa.heap.size≤b9∧w'.heap[b9]?=some (.cells #[.int .i64 o,.string s0,.slice ta tn tc,.string s1,.slice aa an ac] 30 (0,0))
  | _=>∃u,v=.agg #[.int .i64 2,.string ⟨#[]⟩,.slice none 0 0,.string NT,u]∧∃b9:Nat,u=.slice (some ⟨b9,0,none⟩) 1 1∧wa.heap.size≤b9∧w'.heap[b9]?=some (.cells #[.int .i64 o,.string s0,.slice ta tn tc,.string s1,.slice aa an ac] 30 (0,0))) rfl rfl (by kernel_rfl) (by kernel_rfl) (by kernel_rfl) (by kernel_rfl) ?st ?steps ?fin
 case st=>
  intro i9 v u1 u2 h hb
  match i9 with
  | 0 | 1 | 2=>exact h
  | 3=>exact (by obtain ⟨b9,q1,q2,q3⟩:=(show ∃b9:Nat,v=.slice (some ⟨b9,0,none⟩) 1 1∧wa.heap.size≤b9∧u1.heap[b9]?=some (.cells #[.int .i64 o,.string s0,.slice ta tn tc,.string s1,.slice aa an ac] 30 (0,0)) from h); exact ⟨b9,q1,q2,(hb.block b9 (ZL q3)).trans q3⟩)
  | 4 | _+5=>exact (by obtain ⟨u,q0,b9,q1,q2,q3⟩:=(show ∃u,v=.agg #[.int .i64 2,.string ⟨#[]⟩,.slice none 0 0,.string NT,u]∧∃b9:Nat,u=.slice (some ⟨b9,0,none⟩) 1 1∧wa.heap.size≤b9∧u1.heap[b9]?=some (.cells #[.int .i64 o,.string s0,.slice ta tn tc,.string s1,.slice aa an ac] 30 (0,0)) from h); exact ⟨u,q0,b9,q1,q2,(hb.block b9 (ZL q3)).trans q3⟩)
 case steps=>
  refine zSc (zSo rfl ?s0) (zSc (zSo rfl ?s1) (zSc (zSo rfl ?s2) (zSc (zSo rfl ?s3) (zSc (zSo rfl ?s4) zSn))))
  case s0=>
   intro xs w' hb hT K9 hK9
   clear hT
   simp only[zFp,zAp,zLa,zLb,zLc,Nat.reduceAdd,zNz] at hK9⊢
   have hw:=Flow.hwD HWA.out hb
   have kb:=(hw.block br (ZL HK.out.2.1)).trans HK.out.2.1
   have y0:=ZI kb 0
   have y1:=ZI kb 1
   have y2:=ZI kb 2
   have y3:=ZI kb 3
   clear kb
   simp at y0 y1 y2 y3
   go_simp
   exact hK9 _ _ (ZR _ _) rfl
  case s1=>
   intro xs w' hb hT K9 hK9
   have h0:(xs 0)=.agg #[.bool p1,.slice a1 c1 l1,.bool p2,.slice a2 c2 l2]:=hT 0 (by kernel_rfl)
   clear hT
   simp only[zFp,zAp,zLa,zLb,zLc,Nat.reduceAdd,zNz] at hK9⊢
   have hw:=Flow.hwD HWA.out hb
   (try simp only[h0] at hK9)
   go_simp
   go_at_call 37
   refine (Number_any (HX.out.2.1.below hw) HX.out.2.2 (HG.out.below hw)).mono ?_
   rintro e w3 ⟨rfl,hb3⟩
   exact hK9 _ _ hb3 (by rw[HNT.out])
  case s2=>
   intro xs w' hb hT K9 hK9
   clear hT
   simp only[zFp,zAp,zLa,zLb,zLc,Nat.reduceAdd,zNz] at hK9⊢
   have hw:=Flow.hwD HWA.out hb
   have kb:=(hw.block bx (ZL HK.out.1)).trans HK.out.1
   have y0:=ZI kb 0
   have y1:=ZI kb 1
   have y2:=ZI kb 2
   have y3:=ZI kb 3
   have y4:=ZI kb 4
   clear kb
   simp at y0 y1 y2 y3 y4
   go_simp
   exact hK9 _ _ (ZR _ _) rfl
  case s3=>
   intro xs w' hb hT K9 hK9
   have h2:(xs 2)=.agg #[.int .i64 o,.string s0,.slice ta tn tc,.string s1,.slice aa an ac]:=hT 2 (by kernel_rfl)
   clear hT
   simp only[zFp,zAp,zLa,zLb,zLc,Nat.reduceAdd,zNz] at hK9⊢
   have hw:=Flow.hwD HWA.out hb
   (try simp only[h2] at hK9)
   go_simp
   exact hK9 _ _ ((ZR _ _).alloc (Nat.le_refl _) _) ⟨_,rfl,hw.size,ZW w' _⟩
  case s4=>
   intro xs w' hb hT K9 hK9
   have h1:(xs 1)=.string NT:=hT 1 (by kernel_rfl)
   have h3:∃b9:Nat,(xs 3)=.slice (some ⟨b9,0,none⟩) 1 1∧wa.heap.size≤b9∧w'.heap[b9]?=some (.cells #[.int .i64 o,.string s0,.slice ta tn tc,.string s1,.slice aa an ac] 30 (0,0)):=hT 3 (by kernel_rfl)
   clear hT
   simp only[zFp,zAp,zLa,zLb,zLc,Nat.reduceAdd,zNz] at hK9⊢
   have hw:=Flow.hwD HWA.out hb
   (try simp only[h1] at hK9)
   obtain ⟨b9,q1,q2,q3⟩:=h3
   simp only[q1] at hK9
   go_simp
   exact hK9 _ _ (ZR _ _) ⟨_,rfl,b9,rfl,q2,q3⟩
 case fin=>
  intro xs w' hb hT
  have hw:=Flow.hwD HWA.out hb
  have h4:∃u,(xs 4)=.agg #[.int .i64 2,.string ⟨#[]⟩,.slice none 0 0,.string NT,u]∧∃b9:Nat,u=.slice (some ⟨b9,0,none⟩) 1 1∧wa.heap.size≤b9∧w'.heap[b9]?=some (.cells #[.int .i64 o,.string s0,.slice ta tn tc,.string s1,.slice aa an ac] 30 (0,0)):=hT 4 (by rfl)
  clear hT
  simp only[zFp,zAp,zLa,zLb,zLc,Nat.reduceAdd,zNz,FlowR.restL,FlowR.orM,Bool.false_or]
  obtain ⟨u,e4,b9,rfl,hge,hk9⟩:=h4
  simp only[e4]
  clear e4
  have hk2:=(hw.block bc (ZL HK.out.2.2)).trans HK.out.2.2
  obtain ⟨z0,z1,z2,z3,z4⟩:=cells5 (ZR _ w') hk2
  have f0:=ZF hk2 0
  have f1:=ZF hk2 1
  have f2:=ZF hk2 2
  have f3:=ZF hk2 3
  have f4:=ZF hk2 4
  have hne:b9≠bc:=by have:=HAL.out.2.2; omega
  obtain ⟨wf,hwf⟩:∃x,x=((((w'.setCell ⟨bc,0,none⟩ (.int .i64 2)).setCell ⟨bc,1,none⟩ (.string ⟨#[]⟩)).setCell ⟨bc,2,none⟩ (.slice none 0 0)).setCell ⟨bc,3,none⟩ (.string NT)).setCell ⟨bc,4,none⟩ (.slice (some ⟨b9,0,none⟩) 1 1):=⟨_,rfl⟩
  have hbf:Below w.heap.size w wf:=by rw[hwf]; exact below_five (HAL.out.1.trans (hw.mono HAL.out.1.size)) HAL.out.2.1 _ _ _ _ _
  have k9:wf.heap[b9]?=some (.cells #[.int .i64 o,.string s0,.slice ta tn tc,.string s1,.slice aa an ac] 30 (0,0)):=by
   rw[hwf]
   exact ((((Below.heap_setCell _ _ _ _ hne).trans (Below.heap_setCell _ _ _ _ hne)).trans (Below.heap_setCell _ _ _ _ hne)).trans (Below.heap_setCell _ _ _ _ hne)).trans ((Below.heap_setCell _ _ _ _ hne).trans hk9)
  have hx:ExIn wf x (.agg #[.int .i64 o,.string s0,.slice ta tn tc,.string s1,.slice aa an ac]):=by
   refine HX0.out.below hbf
  have hex:ExIn wf (.mk 2 [] [] (numText r) [x]) (.agg #[.int .i64 2,.string ⟨#[]⟩,.slice none 0 0,.string NT,.slice (some ⟨b9,0,none⟩) 1 1]):=by
   have h:=ExIn.of (x:=.mk 2 [] [] (numText r) [x]) (termsZ_none wf) (exs_one k9 hx)
   rw[HNT.out]
   exact h
  have HF:=ZH (ZN hex hbf)
  have HWF:=ZH hwf
  clear hk2 hwf hbf k9 hx hex hk9 hge hb hw hne
  go_wp2_with fail
  rw[←HWF.out]
  exact bodyPost_ret (v:=.agg #[.int .i64 2,.string ⟨#[]⟩,.slice none 0 0,.string NT,.slice (some ⟨b9,0,none⟩) 1 1]) (by rw[HWF.out]; simp[results,Tryz.results34,go_sem,z0,z1,z2,z3,z4]) rfl ⟨_,rfl,HF.out⟩
end Go.Proofs.YtdcaaehapdhckaaGreatDoor
