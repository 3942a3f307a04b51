/- dimension.Value: the value of a form. -/
import Derived.Test.YtdgimcmappmjdaaGreatDoorKZ
import Derived.Test.YtdgimcmappmjdaaGreatDoorKM
import Derived.Test.YtdgimcmappmjdaaGreatDoorKI
import Derived.Test.YtdgimcmappmjdaaGreatDoorKE
import Derived.Test.YtdgimcmappmjdaaGreatDoorKW
import Derived.Test.YtdgimcmappmjdaaGreatDoorK1
import Derived.Test.YtdgimcmappmjdaaGreatDoorKN
set_option linter.unusedSimpArgs false
set_option linter.unusedVariables false
set_option maxRecDepth 100000
namespace Go.Proofs.YtdgimcmappmjdaaGreatDoor
open List renaming setIfInBounds_toArray → zLa, set_cons_zero → zLb, set_cons_succ → zLc
open FlowR renaming putSel → zFp
open Act renaming put → zAp
open Nat renaming zero_add → zNz
open Flow.Steps renaming cons → zSc, nil → zSn
open FlowR.Step renaming of → zSo
open Go.RowKit Go.Num Go.Flow
set_option maxHeartbeats 8000000
set_option linter.unusedVariables false

def valueTo (c:List UInt8) (L:List (Nat×List UInt8)) (rs:List Rat) (k:Nat):Rat:=(L.take k).foldl (fun a p=>a+readVal p.2*rs.getD p.1 0) (readVal c)
theorem valueTo_succ {c:List UInt8} {L:List (Nat×List UInt8)} {rs:List Rat} {k:Nat} (h:k<L.length):valueTo c L rs (k+1)=valueTo c L rs k+readVal (L.getD k (0,[])).2*rs.getD (L.getD k (0,[])).1 0:=by
 unfold valueTo
 rw[List.take_add_one,List.getElem?_eq_getElem h,List.foldl_append,List.getD_eq_getElem?_getD,List.getElem?_eq_getElem h]
 rfl
theorem mValue_any {w:World} (hg:Glob w) {v:Value} {c:List UInt8} {L:List (Nat×List UInt8)} (hf:FormAt w v c L) (hL:L.length≤1000) {ar:Option Addr} {cr:Nat} {rs:List Rat} {K:Nat} (hr:RatsAt w ar cr rs K) (hK:2≤K) {S:Nat} (hc:c.length≤S) (hc0:readErr c 65536=0) (hS:S≤60000)
  (ht:∀j,j<L.length→(L.getD j (0,[])).1<rs.length∧(L.getD j (0,[])).2.length≤S∧readErr (L.getD j (0,[])).2 65536=0) (hb:(S+2)+(L.length+1)*(S+K+3)≤900000) :
  Calls Tryz.prog 29 #[v,.slice ar rs.length cr] w fun e w'=>∃v',e=.returned (.tuple #[v',.int .i64 0])∧RtIn w' v' (valueTo c L rs L.length) ((S+2)+L.length*(S+K+3))∧Below w.heap.size w w':=by
 obtain ⟨tv,rfl,ao,ca,rfl,hta,htb,htc⟩:=hf
 obtain ⟨n,hn⟩:∃n,n=L.length:=⟨_,rfl⟩
 obtain ⟨nr,hnr⟩:∃n,n=rs.length:=⟨_,rfl⟩
 obtain ⟨s,hs⟩:∃s:ByteArray,s=⟨c.toArray⟩:=⟨_,rfl⟩
 have hsl:s.data.toList=c:=by rw[hs]
 obtain ⟨wa,hwa⟩:∃wa,wa=(w.alloc (.cells #[.string s,.slice ao n ca] 57)).alloc (.cells #[.bool false,.slice none 0 0,.bool false,.slice none 0 0] 43):=⟨_,rfl⟩
 obtain ⟨bf,hbf⟩:∃b,b=w.heap.size:=⟨_,rfl⟩
 obtain ⟨b4,hb4⟩:∃b,b=w.heap.size+1:=⟨_,rfl⟩
 have hal:Below w.heap.size w wa:=by rw[hwa]; exact ((ZR _ w).alloc (Nat.le_refl _) _).alloc (by simp) _
 obtain ⟨k0,k1⟩:=two_made w #[.string s,.slice ao n ca] #[.bool false,.slice none 0 0,.bool false,.slice none 0 0] 57 43
 rw[←hwa,←hbf] at k0
 rw[←hwa,←hb4] at k1
 have hcap:n≤ca∧ca≤9223372036854775807:=by rw[hn]; exact ⟨hta,htb⟩
 have hcap2:nr≤cr∧cr≤9223372036854775807:=by rw[hnr]; exact ⟨hr.1,hr.2.1⟩
 have hsz:s.size≤4294967280:=by
  have h1:s.size=c.length:=by rw[hs]; simp[ByteArray.size]
  omega
 have HRD:=ZH (mread_any s hsz (hg.below hal) (by rw[hsl]; exact hc0))
 have hsl2:s.data.toList.length=c.length:=by rw[hsl]
 have HSL:=ZH hsl
 have HG:=ZH (hg.below hal)
 have HR:=ZH hr.2.2
 have HTC:=ZH htc
 have HT:=ZH ht
 have HAL:=ZH hal
 have HK0:=ZH k0
 have HK1:=ZH k1
 have HNE:=ZH (show bf≠b4∧w.heap.size≤bf∧w.heap.size≤b4 by omega)
 have HN:=ZH (ZN hn (ZN hnr (ZN hL (ZN hK (ZN hS (ZN hb hc))))))
 have HW:=ZH (ZN hwa (ZN hbf hb4))
 rw[←hn,←hnr,←hs]
 clear hwa hbf hb4 hal k0 hg hr hta htb htc ht hL hK hS hb hc hc0 hs hsl hsz hsl2
 have s0:=ZI HK0.out 0
 have s1:=ZI HK0.out 1
 simp at s0 s1
 have hn1:n≤1000:=by have:=HN.out; omega
 clear hn hnr k1
 go_enter Tryz.func29,Tryz.ntmps29
 go_upto_region 1 with fail
 rw[←HW.out.1,←HW.out.2.2,←HW.out.2.1]
 clear HW
 go_wp2_with fail
 refine HRD.out.mono ?_
 rintro e w1 ⟨v1,rfl,hr1,hb1⟩
 rw[HSL.out] at hr1
 obtain ⟨p1,g1,f1,n1,p2,g2,f2,n2,rfl⟩:=rt_shape hr1
 have HR1:=ZH hr1
 have HB1:=ZH hb1
 clear hr1 hb1 s0 s1
 go_upto_region 2 with fail
 obtain ⟨w2,hw2⟩:∃x,x=w1.alloc (.cells #[.bool p1,.slice g1 f1 n1,.bool p2,.slice g2 f2 n2] 43):=⟨_,rfl⟩
 obtain ⟨bo,hbo⟩:∃b,b=w1.heap.size:=⟨_,rfl⟩
 rw[←hw2,←hbo]
 have hl2:Below w1.heap.size w1 w2:=by rw[hw2]; exact (ZR _ w1).alloc (Nat.le_refl _) _
 have kb:w2.heap[bo]?=some (.cells #[.bool p1,.slice g1 f1 n1,.bool p2,.slice g2 f2 n2] 43 (0,0)):=by rw[hw2,hbo]; exact ZW w1 _
 have HKB2:=ZH kb
 have HACC2:=ZH (show RtIn w2 (.agg #[.bool p1,.slice g1 f1 n1,.bool p2,.slice g2 f2 n2]) (valueTo c L rs 0) (S+2+0*(S+K+3)) from by
  rw[Nat.zero_mul]
  exact (HR1.out.below hl2).more (by have:=HN.out; omega))
 have HB2:=ZH (HB1.out.trans (hl2.mono HB1.out.size))
 have HBO:=ZH (show wa.heap.size≤bo by rw[hbo]; exact HB1.out.size)
 have hkf:=(HB2.out.block bf (ZL HK0.out)).trans HK0.out
 have s0:=ZI hkf 0
 have s1:=ZI hkf 1
 simp at s0 s1
 clear hw2 hbo hl2 kb hkf HR1 HB1
 go_wp2_with fail
 clear s0 s1
 go_loopg [15] n (fun gk x wr=>∃k:Nat,k+gk=n∧x=.int .i64 k∧Hid (∃s1 a1 c1 l1 s2 a2 c2 l2,wr.heap[bo]?=some (.cells #[.bool s1,.slice a1 c1 l1,.bool s2,.slice a2 c2 l2] 43 (0,0))∧RtIn wr (.agg #[.bool s1,.slice a1 c1 l1,.bool s2,.slice a2 c2 l2]) (valueTo c L rs k) (S+2+k*(S+K+3)))∧Hid (Below wa.heap.size wa wr))
 case atStart=>exact ⟨0,by omega,rfl,ZH ⟨_,_,_,_,_,_,_,_,HKB2.out,HACC2.out⟩,HB2⟩
 case round=>
  obtain ⟨k,hk,rfl,hacc,hbw⟩:=hrel
  obtain ⟨s1,a1,c1,l1,s2,a2,c2,l2,hkb,hrt⟩:=hacc.out
  by_cases hlt:k<n
  ·have e1:((k:Int)<(n:Int))=True:=eq_true (by omega)
   obtain ⟨g,o,rfl,-,hcc⟩:=HTC.out (by have:=HN.out.1; omega)
   have hx:=hcc k (by have:=HN.out.1; omega)
   have htk:=HT.out k (by have:=HN.out.1; omega)
   have hvs:=valueTo_succ (c:=c) (rs:=rs) (show k<L.length by have:=HN.out.1; omega)
   obtain ⟨⟨ti,tl⟩,htt⟩:∃x,x=L.getD k (0,[]):=⟨_,rfl⟩
   rw[←htt] at hx htk hvs
   simp only[] at hx htk hvs
   obtain ⟨tt,htx⟩:∃s:ByteArray,s=⟨tl.toArray⟩:=⟨_,rfl⟩
   rw[←htx] at hx
   obtain ⟨rb,ro,rfl,-,hrc⟩:=HR.out (by omega)
   obtain ⟨q,hq⟩:∃x,x=rs.getD ti 0:=⟨_,rfl⟩
   obtain ⟨tq,htq⟩:∃x,x=readVal tl:=⟨_,rfl⟩
   have hy:=hrc ti htk.1
   rw[←hq] at hy hvs
   rw[←htq] at hvs
   have hbw0:=HAL.out.trans (hbw.out.mono HAL.out.size)
   have x0:=ZJ hbw0 hx.1
   have x1:=ZJ hbw0 hx.2
   have hrd:=fun (W:World) (hgW:Glob W)=>mread_any tt (by
    have h1:tt.size=tl.length:=by rw[htx]; simp[ByteArray.size]
    have h2:=HN.out
    omega) hgW (by rw[htx]; exact htk.2.2)
   rw[show tt.data.toList=tl by rw[htx],←htq] at hrd
   obtain ⟨t1,b1,d1,m1,t2,b2,d2,m2,r0,r1,r2,r3,hrq⟩:=hy
   have HY:=ZH (ZN (ZJ hbw0 r0) (ZN (ZJ hbw0 r1) (ZN (ZJ hbw0 r2) (ZN (ZJ hbw0 r3) (hrq.below hbw0)))))
   have HRDT:=ZH hrd
   have HVS:=ZH hvs
   have HLT:=ZH (ZN hlt (ZN htk.1 htk.2.1))
   have HKB:=ZH hkb
   have HACC:=ZH hrt
   have hk0:(0:Int)≤(k:Int):=by omega
   have hk1:(k:Int)<(n:Int):=by omega
   have e2:((nr:Int)≤(ti:Int))=False:=eq_false (by have:=HN.out.2.1; have:=htk.1; omega)
   obtain ⟨va,hva⟩:∃x,x=valueTo c L rs k:=⟨_,rfl⟩
   rw[←hva] at HACC HVS
   clear hcc hx htk hvs htt htx hrc hq htq hbw0 hrd r0 r1 r2 r3 hrq hlt hkb hrt hacc hva
   go_upto_region 5 with fail
   obtain ⟨w3,hw3⟩:∃x,x=wr.alloc (.cells #[.int .i64 (ti:Int),.string tt] 118):=⟨_,rfl⟩
   obtain ⟨bt,hbt⟩:∃b,b=wr.heap.size:=⟨_,rfl⟩
   rw[←hw3,←hbt]
   have hl3:Below wr.heap.size wr w3:=by rw[hw3]; exact (ZR _ wr).alloc (Nat.le_refl _) _
   have kt:w3.heap[bt]?=some (.cells #[.int .i64 (ti:Int),.string tt] 118 (0,0)):=by rw[hw3,hbt]; exact ZW wr _
   have HKT:=ZH kt
   have HL3:=ZH hl3
   have HB3:=ZH (hbw.out.trans (hl3.mono hbw.out.size))
   have HKB3:=ZH ((hl3.block bo (ZL HKB.out)).trans HKB.out)
   have HACC3:=ZH (HACC.out.below hl3)
   have HY3:=ZH (ZN (ZJ hl3 HY.out.1) (ZN (ZJ hl3 HY.out.2.1) (ZN (ZJ hl3 HY.out.2.2.1) (ZN (ZJ hl3 HY.out.2.2.2.1) (HY.out.2.2.2.2.below hl3)))))
   have HW3:=ZH (ZR w3.heap.size w3)
   have y0:=ZI kt 0
   have y1:=ZI kt 1
   simp at y0 y1
   have HBD:=ZH (show S+2+k*(S+K+3)+(S+2+K)+1≤900000 by
    have h1:=HN.out.2.2.2.2.2.1
    have h2:(k+1)*(S+K+3)≤(L.length+1)*(S+K+3):=Nat.mul_le_mul_right _ (by have h3:=HLT.out.1; have h4:=HN.out.1; omega)
    rw[Nat.add_mul,Nat.one_mul] at h2
    omega)
   have ht0:(0:Int)≤(ti:Int):=by omega
   have ht1:(ti:Int)<(nr:Int):=by have:=HN.out.2.1; have:=HLT.out.2.1; omega
   clear hw3 hbt hl3 kt x0 x1 hk0 hk1 HKB HACC HY HL3 hbw
   go_upto_region 7 with fail
   clear y0 y1
   refine FlowR.wp_region_sel (fun a b=>Below a.heap.size a b) (fun a=>ZR _ a) (fun _ _ _ h k=>h.trans (k.mono h.size)) [0,1,2,3,4,5,6,7,8,9,10] [false,false,false,false,false,false,false,false,false,false,false,false] [true,true,true,true,true,true,true,true,true,true,true,false] (fun i9 v w'=>match i9 with
    | 0=>v=.agg #[.bool s1,.slice a1 c1 l1,.bool s2,.slice a2 c2 l2]
    | 1=>v=.pointer (some ⟨bt,1,none⟩)
    | 2=>v=.string tt
    | 3=>RtIn w' v tq (S+2)
    | 4=>v=.slice (some ⟨rb,ro,none⟩) nr cr
    | 5=>v=.pointer (some ⟨bt,0,none⟩)
    | 6=>v=.int .i64 (ti:Int)
    | 7=>v=.pointer (some ⟨rb,ro+ti*4,none⟩)
    | 8=>v=.agg #[.bool t1,.slice b1 d1 m1,.bool t2,.slice b2 d2 m2]
    | 9=>RtIn w' v (tq*q) (S+2+K)
    | _=>RtIn w' v (va+tq*q) (S+2+k*(S+K+3)+(S+2+K)+1)) rfl rfl (by kernel_rfl) (by kernel_rfl) (by kernel_rfl) (by kernel_rfl) ?st ?steps ?fin
   case st=>
    intro i9 v u1 u2 h hb
    match i9 with
    | 0 | 1 | 2 | 4 | 5 | 6 | 7 | 8=>exact h
    | 3=>exact (show RtIn u1 v tq (S+2) from h).below hb
    | 9=>exact (show RtIn u1 v (tq*q) (S+2+K) from h).below hb
    | 10 | _+11=>exact (show RtIn u1 v (va+tq*q) (S+2+k*(S+K+3)+(S+2+K)+1) from h).below hb
   case steps=>
    refine zSc (zSo rfl ?s0) (zSc (zSo rfl ?s1) (zSc (zSo rfl ?s2) (zSc (zSo rfl ?s3) (zSc (zSo rfl ?s4) (zSc (zSo rfl ?s5) (zSc (zSo rfl ?s6) (zSc (zSo rfl ?s7) (zSc (zSo rfl ?s8) (zSc (zSo rfl ?s9) (zSc (zSo rfl ?s10) zSn))))))))))
    case s0=>
     intro xs w' hb hT K9 hK9
     clear hT
     simp only[zFp,zAp,zLa,zLb,zLc,Nat.reduceAdd,zNz] at hK9⊢
     have hw:=Flow.hwD HW3.out hb
     have kb:=(hw.block bo (ZL HKB3.out)).trans HKB3.out
     have y0:=ZI kb 0
     have y1:=ZI kb 1
     have y2:=ZI kb 2
     have y3:=ZI kb 3
     clear kb
     simp at y0 y1 y2 y3
     go_simp
     exact hK9 _ _ (ZR _ _) rfl
    case s1 | s4 | s5=>
     intro xs w' hb hT K9 hK9
     clear hT
     simp only[zFp,zAp,zLa,zLb,zLc,Nat.reduceAdd,zNz] at hK9⊢
     have hw:=Flow.hwD HW3.out hb
     go_simp
     exact hK9 _ _ (ZR _ _) rfl
    case s2=>
     intro xs w' hb hT K9 hK9
     have h1:(xs 1)=.pointer (some ⟨bt,1,none⟩):=hT 1 (by kernel_rfl)
     clear hT
     simp only[zFp,zAp,zLa,zLb,zLc,Nat.reduceAdd,zNz] at hK9⊢
     have hw:=Flow.hwD HW3.out hb
     have kb:=(hw.block bt (ZL HKT.out)).trans HKT.out
     have y0:=ZI kb 1
     clear kb
     simp at y0
     (try simp only[h1] at hK9)
     go_simp
     exact hK9 _ _ (ZR _ _) rfl
    case s3=>
     intro xs w' hb hT K9 hK9
     have h2:(xs 2)=.string tt:=hT 2 (by kernel_rfl)
     clear hT
     simp only[zFp,zAp,zLa,zLb,zLc,Nat.reduceAdd,zNz] at hK9⊢
     have hw:=Flow.hwD HW3.out hb
     (try simp only[h2] at hK9)
     go_simp
     go_at_call 73
     refine (HRDT.out w' (HG.out.below (HB3.out.trans (hw.mono HB3.out.size)))).mono ?_
     rintro e w3 ⟨v3,rfl,hi3,hb3⟩
     exact hK9 _ _ hb3 (hi3.more (by have:=HLT.out.2.2; omega))
    case s6=>
     intro xs w' hb hT K9 hK9
     have h5:(xs 5)=.pointer (some ⟨bt,0,none⟩):=hT 5 (by kernel_rfl)
     clear hT
     simp only[zFp,zAp,zLa,zLb,zLc,Nat.reduceAdd,zNz] at hK9⊢
     have hw:=Flow.hwD HW3.out hb
     have kb:=(hw.block bt (ZL HKT.out)).trans HKT.out
     have y0:=ZI kb 0
     clear kb
     simp at y0
     (try simp only[h5] at hK9)
     go_simp
     exact hK9 _ _ (ZR _ _) rfl
    case s7=>
     intro xs w' hb hT K9 hK9
     have h4:(xs 4)=.slice (some ⟨rb,ro,none⟩) nr cr:=hT 4 (by kernel_rfl)
     have h6:(xs 6)=.int .i64 (ti:Int):=hT 6 (by kernel_rfl)
     clear hT
     simp only[zFp,zAp,zLa,zLb,zLc,Nat.reduceAdd,zNz] at hK9⊢
     have hw:=Flow.hwD HW3.out hb
     (try simp only[h4] at hK9)
     (try simp only[h6] at hK9)
     go_simp
     exact hK9 _ _ (ZR _ _) rfl
    case s8=>
     intro xs w' hb hT K9 hK9
     have h7:(xs 7)=.pointer (some ⟨rb,ro+ti*4,none⟩):=hT 7 (by kernel_rfl)
     clear hT
     simp only[zFp,zAp,zLa,zLb,zLc,Nat.reduceAdd,zNz] at hK9⊢
     have hw:=Flow.hwD HW3.out hb
     (try simp only[h7] at hK9)
     have y0:=ZJ hw HY3.out.1
     have y1:=ZJ hw HY3.out.2.1
     have y2:=ZJ hw HY3.out.2.2.1
     have y3:=ZJ hw HY3.out.2.2.2.1
     go_simp
     exact hK9 _ _ (ZR _ _) rfl
    case s9=>
     intro xs w' hb hT K9 hK9
     have h3:RtIn w' (xs 3) tq (S+2):=hT 3 (by kernel_rfl)
     have h8:(xs 8)=.agg #[.bool t1,.slice b1 d1 m1,.bool t2,.slice b2 d2 m2]:=hT 8 (by kernel_rfl)
     clear hT
     simp only[zFp,zAp,zLa,zLb,zLc,Nat.reduceAdd,zNz] at hK9⊢
     have hw:=Flow.hwD HW3.out hb
     (try simp only[h8] at hK9)
     go_simp
     go_at_call 74
     refine (ratMul_any h3 (HY3.out.2.2.2.2.below hw) (by omega) HN.out.2.2.2.1 (by have:=HBD.out; omega)).mono ?_
     rintro e w3 ⟨v3,rfl,hi3,hb3⟩
     exact hK9 _ _ hb3 hi3
    case s10=>
     intro xs w' hb hT K9 hK9
     have h0:(xs 0)=.agg #[.bool s1,.slice a1 c1 l1,.bool s2,.slice a2 c2 l2]:=hT 0 (by kernel_rfl)
     have h9:RtIn w' (xs 9) (tq*q) (S+2+K):=hT 9 (by kernel_rfl)
     clear hT
     simp only[zFp,zAp,zLa,zLb,zLc,Nat.reduceAdd,zNz] at hK9⊢
     have hw:=Flow.hwD HW3.out hb
     (try simp only[h0] at hK9)
     go_simp
     go_at_call 79
     refine (ratAdd_any (HACC3.out.below hw) h9 (by omega) (by omega) HBD.out).mono ?_
     rintro e w3 ⟨v3,rfl,hi3,hb3⟩
     exact hK9 _ _ hb3 hi3
   case fin=>
    intro xs w' hb hT
    have hw:=Flow.hwD HW3.out hb
    have h10:RtIn w' (xs 10) (va+tq*q) (S+2+k*(S+K+3)+(S+2+K)+1):=hT 10 (by rfl)
    clear hT
    simp only[zFp,zAp,zLa,zLb,zLc,Nat.reduceAdd,zNz,FlowR.restL,FlowR.orM,Bool.false_or]
    obtain ⟨p1',g3,i3,j3,p2',g4,i4,j4,e9⟩:=rt_shape h10
    rw[e9] at h10
    simp only[e9]
    clear e9
    have k9:=(hw.block bo (ZL HKB3.out)).trans HKB3.out
    have x0:=ZI k9 0
    have x1:=ZI k9 1
    have x2:=ZI k9 2
    have x3:=ZI k9 3
    have f0:=ZF k9 0
    have f1':=ZF k9 1
    have f2':=ZF k9 2
    have f3:=ZF k9 3
    simp at x0 x1 x2 x3
    have hd:=h10.but (nodig4 k9) (But.set4 (b:=bo) w' (.bool p1') (.slice g3 i3 j3) (.bool p2') (.slice g4 i4 j4))
    have hkd:=four_set k9 (.bool p1') (.slice g3 i3 j3) (.bool p2') (.slice g4 i4 j4)
    have hbd:=(((((HB3.out.trans (hw.mono HB3.out.size)).setCell (p:=⟨bo,0,none⟩) HBO.out (.bool p1')).setCell (p:=⟨bo,1,none⟩) HBO.out (.slice g3 i3 j3)).setCell (p:=⟨bo,2,none⟩) HBO.out (.bool p2')).setCell (p:=⟨bo,3,none⟩) HBO.out (.slice g4 i4 j4))
    have HF:=ZH (ZN hkd (ZN hd hbd))
    clear h10 k9 hd hkd hbd hw hb
    go_wp2_with fail
    go_roundg (n-(k+1))
    case measure=>have:=HLT.out.1; omega
    case rel=>exact ⟨k+1,by have:=HLT.out.1; omega,by congr 1,ZH ⟨_,_,_,_,_,_,_,_,HF.out.1,by rw[HVS.out,show S+2+(k+1)*(S+K+3)=S+2+k*(S+K+3)+(S+2+K)+1 by rw[Nat.add_mul,Nat.one_mul]; omega]; exact HF.out.2.1⟩,ZH HF.out.2.2⟩
  ·have e1:((k:Int)<(n:Int))=False:=eq_false (by omega)
   obtain rfl:k=n:=by omega
   have z0:=ZI hkb 0
   have z1:=ZI hkb 1
   have z2:=ZI hkb 2
   have z3:=ZI hkb 3
   have hk4:=(hbw.out.block b4 (ZL HK1.out)).trans HK1.out
   have o0:=ZI hk4 0
   have o1:=ZI hk4 1
   have o2:=ZI hk4 2
   have o3:=ZI hk4 3
   have f0:=ZF hk4 0
   have f1':=ZF hk4 1
   have f2':=ZF hk4 2
   have f3:=ZF hk4 3
   simp at z0 z1 z2 z3 o0 o1 o2 o3
   have hB:=HAL.out.trans (hbw.out.mono HAL.out.size)
   have HF:=ZH ((((hB.setCell (p:=⟨b4,0,none⟩) HNE.out.2.2 (.bool s1)).setCell (p:=⟨b4,1,none⟩) HNE.out.2.2 (.slice a1 c1 l1)).setCell (p:=⟨b4,2,none⟩) HNE.out.2.2 (.bool s2)).setCell (p:=⟨b4,3,none⟩) HNE.out.2.2 (.slice a2 c2 l2))
   have HI:=ZH (hrt.but (nodig4 hk4) (But.set4 (b:=b4) wr (.bool s1) (.slice a1 c1 l1) (.bool s2) (.slice a2 c2 l2)))
   clear hB hk4 hkb hrt hacc hbw
   go_wp2_with fail
   exact bodyPost_ret (v:=.tuple #[.agg #[.bool s1,.slice a1 c1 l1,.bool s2,.slice a2 c2 l2],.int .i64 0]) (by simp[results,Tryz.results29,go_sem,o0,o1,o2,o3]) rfl ⟨_,rfl,HI.out,HF.out⟩
theorem mValue_short {w:World} (hg:Glob w) {v:Value} {c:List UInt8} {L:List (Nat×List UInt8)} (hf:FormAt w v c L) (hL:L.length≤1000) {ar:Option Addr} {cr:Nat} {rs:List Rat} {K:Nat} (hr:RatsAt w ar cr rs K) (hK:2≤K) {S:Nat} (hc:c.length≤S) (hc0:readErr c 65536=0) (hS:S≤60000)
  (hsh:∃j,j<L.length∧rs.length≤(L.getD j (0,[])).1) (ht:∀j,j<L.length→(L.getD j (0,[])).2.length≤S∧readErr (L.getD j (0,[])).2 65536=0) (hb:(S+2)+(L.length+1)*(S+K+3)≤900000) :
  Calls Tryz.prog 29 #[v,.slice ar rs.length cr] w fun e w'=>e=.returned (.tuple #[.agg #[.bool false,.slice none 0 0,.bool false,.slice none 0 0],.int .i64 13])∧Below w.heap.size w w':=by
 obtain ⟨tv,rfl,ao,ca,rfl,hta,htb,htc⟩:=hf
 obtain ⟨n,hn⟩:∃n,n=L.length:=⟨_,rfl⟩
 obtain ⟨nr,hnr⟩:∃n,n=rs.length:=⟨_,rfl⟩
 obtain ⟨s,hs⟩:∃s:ByteArray,s=⟨c.toArray⟩:=⟨_,rfl⟩
 have hsl:s.data.toList=c:=by rw[hs]
 obtain ⟨wa,hwa⟩:∃wa,wa=(w.alloc (.cells #[.string s,.slice ao n ca] 57)).alloc (.cells #[.bool false,.slice none 0 0,.bool false,.slice none 0 0] 43):=⟨_,rfl⟩
 obtain ⟨bf,hbf⟩:∃b,b=w.heap.size:=⟨_,rfl⟩
 obtain ⟨b4,hb4⟩:∃b,b=w.heap.size+1:=⟨_,rfl⟩
 have hal:Below w.heap.size w wa:=by rw[hwa]; exact ((ZR _ w).alloc (Nat.le_refl _) _).alloc (by simp) _
 obtain ⟨k0,k1⟩:=two_made w #[.string s,.slice ao n ca] #[.bool false,.slice none 0 0,.bool false,.slice none 0 0] 57 43
 rw[←hwa,←hbf] at k0
 rw[←hwa,←hb4] at k1
 have hcap:n≤ca∧ca≤9223372036854775807:=by rw[hn]; exact ⟨hta,htb⟩
 have hcap2:nr≤cr∧cr≤9223372036854775807:=by rw[hnr]; exact ⟨hr.1,hr.2.1⟩
 have hsz:s.size≤4294967280:=by
  have h1:s.size=c.length:=by rw[hs]; simp[ByteArray.size]
  omega
 have HRD:=ZH (mread_any s hsz (hg.below hal) (by rw[hsl]; exact hc0))
 have hsl2:s.data.toList.length=c.length:=by rw[hsl]
 have HSL:=ZH hsl
 have HG:=ZH (hg.below hal)
 have HR:=ZH hr.2.2
 have HTC:=ZH htc
 have HT:=ZH ht
 have HSH:=ZH hsh
 have HAL:=ZH hal
 have HK0:=ZH k0
 have HK1:=ZH k1
 have HNE:=ZH (show bf≠b4∧w.heap.size≤bf∧w.heap.size≤b4 by omega)
 have HN:=ZH (ZN hn (ZN hnr (ZN hL (ZN hK (ZN hS (ZN hb hc))))))
 have HW:=ZH (ZN hwa (ZN hbf hb4))
 rw[←hn,←hnr,←hs]
 clear hsh hwa hbf hb4 hal k0 hg hr hta htb htc ht hL hK hS hb hc hc0 hs hsl hsz hsl2
 have s0:=ZI HK0.out 0
 have s1:=ZI HK0.out 1
 simp at s0 s1
 have hn1:n≤1000:=by have:=HN.out; omega
 clear hn hnr k1
 go_enter Tryz.func29,Tryz.ntmps29
 go_upto_region 1 with fail
 rw[←HW.out.1,←HW.out.2.2,←HW.out.2.1]
 clear HW
 go_wp2_with fail
 refine HRD.out.mono ?_
 rintro e w1 ⟨v1,rfl,hr1,hb1⟩
 rw[HSL.out] at hr1
 obtain ⟨p1,g1,f1,n1,p2,g2,f2,n2,rfl⟩:=rt_shape hr1
 have HR1:=ZH hr1
 have HB1:=ZH hb1
 clear hr1 hb1 s0 s1
 go_upto_region 2 with fail
 obtain ⟨w2,hw2⟩:∃x,x=w1.alloc (.cells #[.bool p1,.slice g1 f1 n1,.bool p2,.slice g2 f2 n2] 43):=⟨_,rfl⟩
 obtain ⟨bo,hbo⟩:∃b,b=w1.heap.size:=⟨_,rfl⟩
 rw[←hw2,←hbo]
 have hl2:Below w1.heap.size w1 w2:=by rw[hw2]; exact (ZR _ w1).alloc (Nat.le_refl _) _
 have kb:w2.heap[bo]?=some (.cells #[.bool p1,.slice g1 f1 n1,.bool p2,.slice g2 f2 n2] 43 (0,0)):=by rw[hw2,hbo]; exact ZW w1 _
 have HKB2:=ZH kb
 have HACC2:=ZH (show RtIn w2 (.agg #[.bool p1,.slice g1 f1 n1,.bool p2,.slice g2 f2 n2]) (valueTo c L rs 0) (S+2+0*(S+K+3)) from by
  rw[Nat.zero_mul]
  exact (HR1.out.below hl2).more (by have:=HN.out; omega))
 have HB2:=ZH (HB1.out.trans (hl2.mono HB1.out.size))
 have HBO:=ZH (show wa.heap.size≤bo by rw[hbo]; exact HB1.out.size)
 have hkf:=(HB2.out.block bf (ZL HK0.out)).trans HK0.out
 have s0:=ZI hkf 0
 have s1:=ZI hkf 1
 simp at s0 s1
 clear hw2 hbo hl2 kb hkf HR1 HB1
 go_wp2_with fail
 clear s0 s1
 go_loopg [15] n (fun gk x wr=>∃k:Nat,k+gk=n∧x=.int .i64 k∧Hid (∃s1 a1 c1 l1 s2 a2 c2 l2,wr.heap[bo]?=some (.cells #[.bool s1,.slice a1 c1 l1,.bool s2,.slice a2 c2 l2] 43 (0,0))∧RtIn wr (.agg #[.bool s1,.slice a1 c1 l1,.bool s2,.slice a2 c2 l2]) (valueTo c L rs k) (S+2+k*(S+K+3)))∧Hid (∀j,j<k→(L.getD j (0,[])).1<rs.length)∧Hid (Below wa.heap.size wa wr))
 case atStart=>exact ⟨0,by omega,rfl,ZH ⟨_,_,_,_,_,_,_,_,HKB2.out,HACC2.out⟩,ZH (fun j hj=>by omega),HB2⟩
 case round=>
  obtain ⟨k,hk,rfl,hacc,hno,hbw⟩:=hrel
  obtain ⟨s1,a1,c1,l1,s2,a2,c2,l2,hkb,hrt⟩:=hacc.out
  by_cases hlt:k<n
  ·have e1:((k:Int)<(n:Int))=True:=eq_true (by omega)
   obtain ⟨g,o,rfl,-,hcc⟩:=HTC.out (by have:=HN.out.1; omega)
   have hx:=hcc k (by have:=HN.out.1; omega)
   have htk:=HT.out k (by have:=HN.out.1; omega)
   have hvs:=valueTo_succ (c:=c) (rs:=rs) (show k<L.length by have:=HN.out.1; omega)
   obtain ⟨⟨ti,tl⟩,htt⟩:∃x,x=L.getD k (0,[]):=⟨_,rfl⟩
   rw[←htt] at hx htk hvs
   simp only[] at hx htk hvs
   obtain ⟨tt,htx⟩:∃s:ByteArray,s=⟨tl.toArray⟩:=⟨_,rfl⟩
   rw[←htx] at hx
   have hdt:(L.getD k (0,[])).1=ti:=by rw[←htt]
   by_cases hti:nr≤ti
   ·have e2:((nr:Int)≤(ti:Int))=True:=eq_true (by omega)
    have hbw0:=HAL.out.trans (hbw.out.mono HAL.out.size)
    have x0:=ZJ hbw0 hx.1
    have x1:=ZJ hbw0 hx.2
    have hk0:(0:Int)≤(k:Int):=by omega
    have hk1:(k:Int)<(n:Int):=by omega
    have HBW:=ZH hbw.out
    clear hcc hx htk hvs htt htx hdt hti hbw hbw0 hlt hkb hrt hacc hno
    go_upto_region 5 with fail
    obtain ⟨w3,hw3⟩:∃x,x=wr.alloc (.cells #[.int .i64 (ti:Int),.string tt] 118):=⟨_,rfl⟩
    obtain ⟨bt,hbt⟩:∃b,b=wr.heap.size:=⟨_,rfl⟩
    rw[←hw3,←hbt]
    have hl3:Below wr.heap.size wr w3:=by rw[hw3]; exact (ZR _ wr).alloc (Nat.le_refl _) _
    have kt:w3.heap[bt]?=some (.cells #[.int .i64 (ti:Int),.string tt] 118 (0,0)):=by rw[hw3,hbt]; exact ZW wr _
    have y0:=ZI kt 0
    simp at y0
    have hb3:=HBW.out.trans (hl3.mono HBW.out.size)
    have hk4:=(hb3.block b4 (ZL HK1.out)).trans HK1.out
    obtain ⟨o0,o1,o2,o3⟩:=cells4 (ZR _ w3) hk4
    have f0:=ZF hk4 0
    have f1':=ZF hk4 1
    have f2':=ZF hk4 2
    have f3:=ZF hk4 3
    have hB:=HAL.out.trans (hb3.mono HAL.out.size)
    have HF:=ZH ((((hB.setCell (p:=⟨b4,0,none⟩) HNE.out.2.2 (.bool false)).setCell (p:=⟨b4,1,none⟩) HNE.out.2.2 (.slice none 0 0)).setCell (p:=⟨b4,2,none⟩) HNE.out.2.2 (.bool false)).setCell (p:=⟨b4,3,none⟩) HNE.out.2.2 (.slice none 0 0))
    clear hw3 hbt hl3 kt hb3 hk4 hB x0 x1
    go_wp2_with fail
    exact bodyPost_ret (v:=.tuple #[.agg #[.bool false,.slice none 0 0,.bool false,.slice none 0 0],.int .i64 13]) (by simp[results,Tryz.results29,go_sem,o0,o1,o2,o3]) rfl ⟨rfl,HF.out⟩
   have htr:ti<rs.length:=by have:=HN.out.2.1; omega
   have HNO:=ZH (show ∀j,j<k+1→(L.getD j (0,[])).1<rs.length from fun j hj=>by
    rcases Nat.lt_or_eq_of_le (Nat.le_of_lt_succ hj) with h | h
    ·exact hno.out j h
    ·rw[h,hdt]; exact htr)
   obtain ⟨rb,ro,rfl,-,hrc⟩:=HR.out (by omega)
   obtain ⟨q,hq⟩:∃x,x=rs.getD ti 0:=⟨_,rfl⟩
   obtain ⟨tq,htq⟩:∃x,x=readVal tl:=⟨_,rfl⟩
   have hy:=hrc ti htr
   rw[←hq] at hy hvs
   rw[←htq] at hvs
   have hbw0:=HAL.out.trans (hbw.out.mono HAL.out.size)
   have x0:=ZJ hbw0 hx.1
   have x1:=ZJ hbw0 hx.2
   have hrd:=fun (W:World) (hgW:Glob W)=>mread_any tt (by
    have h1:tt.size=tl.length:=by rw[htx]; simp[ByteArray.size]
    have h2:=HN.out
    omega) hgW (by rw[htx]; exact htk.2)
   rw[show tt.data.toList=tl by rw[htx],←htq] at hrd
   obtain ⟨t1,b1,d1,m1,t2,b2,d2,m2,r0,r1,r2,r3,hrq⟩:=hy
   have HY:=ZH (ZN (ZJ hbw0 r0) (ZN (ZJ hbw0 r1) (ZN (ZJ hbw0 r2) (ZN (ZJ hbw0 r3) (hrq.below hbw0)))))
   have HRDT:=ZH hrd
   have HVS:=ZH hvs
   have HLT:=ZH (ZN hlt (ZN htr htk.1))
   have HKB:=ZH hkb
   have HACC:=ZH hrt
   have hk0:(0:Int)≤(k:Int):=by omega
   have hk1:(k:Int)<(n:Int):=by omega
   have e2:((nr:Int)≤(ti:Int))=False:=eq_false (by have:=HN.out.2.1; omega)
   obtain ⟨va,hva⟩:∃x,x=valueTo c L rs k:=⟨_,rfl⟩
   rw[←hva] at HACC HVS
   clear htr hdt hti hno hcc hx htk hvs htt htx hrc hq htq hbw0 hrd r0 r1 r2 r3 hrq hlt hkb hrt hacc hva
   go_upto_region 5 with fail
   obtain ⟨w3,hw3⟩:∃x,x=wr.alloc (.cells #[.int .i64 (ti:Int),.string tt] 118):=⟨_,rfl⟩
   obtain ⟨bt,hbt⟩:∃b,b=wr.heap.size:=⟨_,rfl⟩
   rw[←hw3,←hbt]
   have hl3:Below wr.heap.size wr w3:=by rw[hw3]; exact (ZR _ wr).alloc (Nat.le_refl _) _
   have kt:w3.heap[bt]?=some (.cells #[.int .i64 (ti:Int),.string tt] 118 (0,0)):=by rw[hw3,hbt]; exact ZW wr _
   have HKT:=ZH kt
   have HL3:=ZH hl3
   have HB3:=ZH (hbw.out.trans (hl3.mono hbw.out.size))
   have HKB3:=ZH ((hl3.block bo (ZL HKB.out)).trans HKB.out)
   have HACC3:=ZH (HACC.out.below hl3)
   have HY3:=ZH (ZN (ZJ hl3 HY.out.1) (ZN (ZJ hl3 HY.out.2.1) (ZN (ZJ hl3 HY.out.2.2.1) (ZN (ZJ hl3 HY.out.2.2.2.1) (HY.out.2.2.2.2.below hl3)))))
   have HW3:=ZH (ZR w3.heap.size w3)
   have y0:=ZI kt 0
   have y1:=ZI kt 1
   simp at y0 y1
   have HBD:=ZH (show S+2+k*(S+K+3)+(S+2+K)+1≤900000 by
    have h1:=HN.out.2.2.2.2.2.1
    have h2:(k+1)*(S+K+3)≤(L.length+1)*(S+K+3):=Nat.mul_le_mul_right _ (by have h3:=HLT.out.1; have h4:=HN.out.1; omega)
    rw[Nat.add_mul,Nat.one_mul] at h2
    omega)
   have ht0:(0:Int)≤(ti:Int):=by omega
   have ht1:(ti:Int)<(nr:Int):=by have:=HN.out.2.1; have:=HLT.out.2.1; omega
   clear hw3 hbt hl3 kt x0 x1 hk0 hk1 HKB HACC HY HL3 hbw
   go_upto_region 7 with fail
   clear y0 y1
   refine FlowR.wp_region_sel (fun a b=>Below a.heap.size a b) (fun a=>ZR _ a) (fun _ _ _ h k=>h.trans (k.mono h.size)) [0,1,2,3,4,5,6,7,8,9,10] [false,false,false,false,false,false,false,false,false,false,false,false] [true,true,true,true,true,true,true,true,true,true,true,false] (fun i9 v w'=>match i9 with
    | 0=>v=.agg #[.bool s1,.slice a1 c1 l1,.bool s2,.slice a2 c2 l2]
    | 1=>v=.pointer (some ⟨bt,1,none⟩)
    | 2=>v=.string tt
    | 3=>RtIn w' v tq (S+2)
    | 4=>v=.slice (some ⟨rb,ro,none⟩) nr cr
    | 5=>v=.pointer (some ⟨bt,0,none⟩)
    | 6=>v=.int .i64 (ti:Int)
    | 7=>v=.pointer (some ⟨rb,ro+ti*4,none⟩)
    | 8=>v=.agg #[.bool t1,.slice b1 d1 m1,.bool t2,.slice b2 d2 m2]
    | 9=>RtIn w' v (tq*q) (S+2+K)
    | _=>RtIn w' v (va+tq*q) (S+2+k*(S+K+3)+(S+2+K)+1)) rfl rfl (by kernel_rfl) (by kernel_rfl) (by kernel_rfl) (by kernel_rfl) ?st ?steps ?fin
   case st=>
    intro i9 v u1 u2 h hb
    match i9 with
    | 0 | 1 | 2 | 4 | 5 | 6 | 7 | 8=>exact h
    | 3=>exact (show RtIn u1 v tq (S+2) from h).below hb
    | 9=>exact (show RtIn u1 v (tq*q) (S+2+K) from h).below hb
    | 10 | _+11=>exact (show RtIn u1 v (va+tq*q) (S+2+k*(S+K+3)+(S+2+K)+1) from h).below hb
   case steps=>
    refine zSc (zSo rfl ?s0) (zSc (zSo rfl ?s1) (zSc (zSo rfl ?s2) (zSc (zSo rfl ?s3) (zSc (zSo rfl ?s4) (zSc (zSo rfl ?s5) (zSc (zSo rfl ?s6) (zSc (zSo rfl ?s7) (zSc (zSo rfl ?s8) (zSc (zSo rfl ?s9) (zSc (zSo rfl ?s10) zSn))))))))))
    case s0=>
     intro xs w' hb hT K9 hK9
     clear hT
     simp only[zFp,zAp,zLa,zLb,zLc,Nat.reduceAdd,zNz] at hK9⊢
     have hw:=Flow.hwD HW3.out hb
     have kb:=(hw.block bo (ZL HKB3.out)).trans HKB3.out
     have y0:=ZI kb 0
     have y1:=ZI kb 1
     have y2:=ZI kb 2
     have y3:=ZI kb 3
     clear kb
     simp at y0 y1 y2 y3
     go_simp
     exact hK9 _ _ (ZR _ _) rfl
    case s1 | s4 | s5=>
     intro xs w' hb hT K9 hK9
     clear hT
     simp only[zFp,zAp,zLa,zLb,zLc,Nat.reduceAdd,zNz] at hK9⊢
     have hw:=Flow.hwD HW3.out hb
     go_simp
     exact hK9 _ _ (ZR _ _) rfl
    case s2=>
     intro xs w' hb hT K9 hK9
     have h1:(xs 1)=.pointer (some ⟨bt,1,none⟩):=hT 1 (by kernel_rfl)
     clear hT
     simp only[zFp,zAp,zLa,zLb,zLc,Nat.reduceAdd,zNz] at hK9⊢
     have hw:=Flow.hwD HW3.out hb
     have kb:=(hw.block bt (ZL HKT.out)).trans HKT.out
     have y0:=ZI kb 1
     clear kb
     simp at y0
     (try simp only[h1] at hK9)
     go_simp
     exact hK9 _ _ (ZR _ _) rfl
    case s3=>
     intro xs w' hb hT K9 hK9
     have h2:(xs 2)=.string tt:=hT 2 (by kernel_rfl)
     clear hT
     simp only[zFp,zAp,zLa,zLb,zLc,Nat.reduceAdd,zNz] at hK9⊢
     have hw:=Flow.hwD HW3.out hb
     (try simp only[h2] at hK9)
     go_simp
     go_at_call 73
     refine (HRDT.out w' (HG.out.below (HB3.out.trans (hw.mono HB3.out.size)))).mono ?_
     rintro e w3 ⟨v3,rfl,hi3,hb3⟩
     exact hK9 _ _ hb3 (hi3.more (by have:=HLT.out.2.2; omega))
    case s6=>
     intro xs w' hb hT K9 hK9
     have h5:(xs 5)=.pointer (some ⟨bt,0,none⟩):=hT 5 (by kernel_rfl)
     clear hT
     simp only[zFp,zAp,zLa,zLb,zLc,Nat.reduceAdd,zNz] at hK9⊢
     have hw:=Flow.hwD HW3.out hb
     have kb:=(hw.block bt (ZL HKT.out)).trans HKT.out
     have y0:=ZI kb 0
     clear kb
     simp at y0
     (try simp only[h5] at hK9)
     go_simp
     exact hK9 _ _ (ZR _ _) rfl
    case s7=>
     intro xs w' hb hT K9 hK9
     have h4:(xs 4)=.slice (some ⟨rb,ro,none⟩) nr cr:=hT 4 (by kernel_rfl)
     have h6:(xs 6)=.int .i64 (ti:Int):=hT 6 (by kernel_rfl)
     clear hT
     simp only[zFp,zAp,zLa,zLb,zLc,Nat.reduceAdd,zNz] at hK9⊢
     have hw:=Flow.hwD HW3.out hb
     (try simp only[h4] at hK9)
     (try simp only[h6] at hK9)
     go_simp
     exact hK9 _ _ (ZR _ _) rfl
    case s8=>
     intro xs w' hb hT K9 hK9
     have h7:(xs 7)=.pointer (some ⟨rb,ro+ti*4,none⟩):=hT 7 (by kernel_rfl)
     clear hT
     simp only[zFp,zAp,zLa,zLb,zLc,Nat.reduceAdd,zNz] at hK9⊢
     have hw:=Flow.hwD HW3.out hb
     (try simp only[h7] at hK9)
     have y0:=ZJ hw HY3.out.1
     have y1:=ZJ hw HY3.out.2.1
     have y2:=ZJ hw HY3.out.2.2.1
     have y3:=ZJ hw HY3.out.2.2.2.1
     go_simp
     exact hK9 _ _ (ZR _ _) rfl
    case s9=>
     intro xs w' hb hT K9 hK9
     have h3:RtIn w' (xs 3) tq (S+2):=hT 3 (by kernel_rfl)
     have h8:(xs 8)=.agg #[.bool t1,.slice b1 d1 m1,.bool t2,.slice b2 d2 m2]:=hT 8 (by kernel_rfl)
     clear hT
     simp only[zFp,zAp,zLa,zLb,zLc,Nat.reduceAdd,zNz] at hK9⊢
     have hw:=Flow.hwD HW3.out hb
     (try simp only[h8] at hK9)
     go_simp
     go_at_call 74
     refine (ratMul_any h3 (HY3.out.2.2.2.2.below hw) (by omega) HN.out.2.2.2.1 (by have:=HBD.out; omega)).mono ?_
     rintro e w3 ⟨v3,rfl,hi3,hb3⟩
     exact hK9 _ _ hb3 hi3
    case s10=>
     intro xs w' hb hT K9 hK9
     have h0:(xs 0)=.agg #[.bool s1,.slice a1 c1 l1,.bool s2,.slice a2 c2 l2]:=hT 0 (by kernel_rfl)
     have h9:RtIn w' (xs 9) (tq*q) (S+2+K):=hT 9 (by kernel_rfl)
     clear hT
     simp only[zFp,zAp,zLa,zLb,zLc,Nat.reduceAdd,zNz] at hK9⊢
     have hw:=Flow.hwD HW3.out hb
     (try simp only[h0] at hK9)
     go_simp
     go_at_call 79
     refine (ratAdd_any (HACC3.out.below hw) h9 (by omega) (by omega) HBD.out).mono ?_
     rintro e w3 ⟨v3,rfl,hi3,hb3⟩
     exact hK9 _ _ hb3 hi3
   case fin=>
    intro xs w' hb hT
    have hw:=Flow.hwD HW3.out hb
    have h10:RtIn w' (xs 10) (va+tq*q) (S+2+k*(S+K+3)+(S+2+K)+1):=hT 10 (by rfl)
    clear hT
    simp only[zFp,zAp,zLa,zLb,zLc,Nat.reduceAdd,zNz,FlowR.restL,FlowR.orM,Bool.false_or]
    obtain ⟨p1',g3,i3,j3,p2',g4,i4,j4,e9⟩:=rt_shape h10
    rw[e9] at h10
    simp only[e9]
    clear e9
    have k9:=(hw.block bo (ZL HKB3.out)).trans HKB3.out
    have x0:=ZI k9 0
    have x1:=ZI k9 1
    have x2:=ZI k9 2
    have x3:=ZI k9 3
    have f0:=ZF k9 0
    have f1':=ZF k9 1
    have f2':=ZF k9 2
    have f3:=ZF k9 3
    simp at x0 x1 x2 x3
    have hd:=h10.but (nodig4 k9) (But.set4 (b:=bo) w' (.bool p1') (.slice g3 i3 j3) (.bool p2') (.slice g4 i4 j4))
    have hkd:=four_set k9 (.bool p1') (.slice g3 i3 j3) (.bool p2') (.slice g4 i4 j4)
    have hbd:=(((((HB3.out.trans (hw.mono HB3.out.size)).setCell (p:=⟨bo,0,none⟩) HBO.out (.bool p1')).setCell (p:=⟨bo,1,none⟩) HBO.out (.slice g3 i3 j3)).setCell (p:=⟨bo,2,none⟩) HBO.out (.bool p2')).setCell (p:=⟨bo,3,none⟩) HBO.out (.slice g4 i4 j4))
    have HF:=ZH (ZN hkd (ZN hd hbd))
    clear h10 k9 hd hkd hbd hw hb
    go_wp2_with fail
    go_roundg (n-(k+1))
    case measure=>have:=HLT.out.1; omega
    case rel=>exact ⟨k+1,by have:=HLT.out.1; omega,by congr 1,ZH ⟨_,_,_,_,_,_,_,_,HF.out.1,by rw[HVS.out,show S+2+(k+1)*(S+K+3)=S+2+k*(S+K+3)+(S+2+K)+1 by rw[Nat.add_mul,Nat.one_mul]; omega]; exact HF.out.2.1⟩,HNO,ZH HF.out.2.2⟩
  ·have e1:((k:Int)<(n:Int))=False:=eq_false (by omega)
   obtain ⟨j,hj1,hj2⟩:=HSH.out
   have:=hno.out j (by have:=HN.out.1; omega)
   omega
theorem prat_any (s:ByteArray) (hs:s.size≤4294967280) {w:World} (hg:Glob w) (h0:readErr s.data.toList 400=0):Calls Tryz.prog 43 #[.string s] w fun e w'=>∃v,e=.returned v∧RtIn w' v (readVal s.data.toList) (s.data.toList.length+2)∧Below w.heap.size w w':=by
 obtain ⟨wa,b2,hwa,hb2,hla,ka⟩:=new_box w #[.bool false,.slice none 0 0,.bool false,.slice none 0 0] 43
 have HLA:=ZH hla
 have HKA:=ZH ka
 have HG:=ZH (Parse_any' s hs (hg.below hla))
 have HE:=ZH h0
 have HW:=ZH (ZN hwa hb2)
 clear hla ka hwa hb2 hg hs h0
 go_enter Tryz.func43,Tryz.ntmps43
 go_upto_region 1 with fail
 rw[←HW.out.1,←HW.out.2]
 go_wp2_with fail
 refine HG.out.mono ?_
 rintro e w2 ⟨v,rfl,hv,-,hb2⟩
 have hv:=hv HE.out
 rw[HE.out]
 obtain ⟨s1,a1,c1,l1,s2,a2,c2,l2,rfl⟩:=rt_shape hv
 obtain ⟨w6,b6,hw6,hb6,hl6,k6⟩:=new_box w2 #[.bool s1,.slice a1 c1 l1,.bool s2,.slice a2 c2 l2] 43
 have HQ:=ZH (hv.below hl6)
 have HW6:=ZH (ZN hw6 hb6)
 have hl26:=hb2.trans (hl6.mono hb2.size)
 have HL26:=ZH hl26
 have HK26:=ZH (ZN ((hl26.block b2 (ZL HKA.out)).trans HKA.out) k6)
 clear hv hb2 hw6 hb6 hl6 k6 hl26
 go_upto_region 2 with fail
 rw[←HW6.out.1,←HW6.out.2]
 clear HW6
 obtain ⟨z0,z1,z2,z3⟩:=cells4 (ZR _ w6) HK26.out.2
 obtain ⟨y0,y1,y2,y3⟩:=cells4 (ZR _ w6) HK26.out.1
 have f0:=ZF HK26.out.1 0
 have f1:=ZF HK26.out.1 1
 have f2:=ZF HK26.out.1 2
 have f3:=ZF HK26.out.1 3
 have hu:=But.set4 (b:=b2) w6 (.bool s1) (.slice a1 c1 l1) (.bool s2) (.slice a2 c2 l2)
 have HR:=ZH (HQ.out.but (nodig4 HK26.out.1) hu)
 have hb:=HLA.out.trans (HL26.out.mono HLA.out.size)
 have hge:w.heap.size≤b2:=by have:=HW.out.2; omega
 have HGB:=ZH (show Below w.heap.size w ((((w6.setCell ⟨b2,0,none⟩ (.bool s1)).setCell ⟨b2,1,none⟩ (.slice a1 c1 l1)).setCell ⟨b2,2,none⟩ (.bool s2)).setCell ⟨b2,3,none⟩ (.slice a2 c2 l2)) from (((hb.setCell (p:=⟨b2,0,none⟩) hge _).setCell (p:=⟨b2,1,none⟩) hge _).setCell (p:=⟨b2,2,none⟩) hge _).setCell (p:=⟨b2,3,none⟩) hge _)
 clear hu hb hge
 go_wp2_with fail
 exact bodyPost_ret (v:=.agg #[.bool s1,.slice a1 c1 l1,.bool s2,.slice a2 c2 l2]) (by simp[results,Tryz.results43,go_sem,y0,y1,y2,y3]) rfl ⟨_,rfl,HR.out,HGB.out⟩
theorem pvalue_any {w:World} (hg:Glob w) {v:Value} {c:List UInt8} {L:List (Nat×List UInt8)} (hf:FormAt w v c L) (hL:L.length≤1000) {ar:Option Addr} {cr:Nat} {rs:List Rat} {K:Nat} (hr:RatsAt w ar cr rs K) (hK:2≤K) {S:Nat} (hc:c.length≤S) (hc0:readErr c 400=0) (hS:S≤60000)
  (ht:∀j,j<L.length→(L.getD j (0,[])).1<rs.length∧(L.getD j (0,[])).2.length≤S∧readErr (L.getD j (0,[])).2 400=0) (hb:(S+2)+(L.length+1)*(S+K+3)≤900000) :
  Calls Tryz.prog 102 #[v,.slice ar rs.length cr] w fun e w'=>∃v',e=.returned v'∧RtIn w' v' (valueTo c L rs L.length) ((S+2)+L.length*(S+K+3))∧Below w.heap.size w w':=by
 obtain ⟨tv,rfl,ao,ca,rfl,hta,htb,htc⟩:=hf
 obtain ⟨n,hn⟩:∃n,n=L.length:=⟨_,rfl⟩
 obtain ⟨nr,hnr⟩:∃n,n=rs.length:=⟨_,rfl⟩
 obtain ⟨s,hs⟩:∃s:ByteArray,s=⟨c.toArray⟩:=⟨_,rfl⟩
 have hsl:s.data.toList=c:=by rw[hs]
 obtain ⟨wa,bf,br,hwa,hbf,hbr,hal,k0,k1⟩:=new_two w #[.string s,.slice ao n ca] #[.bool false,.slice none 0 0,.bool false,.slice none 0 0] 57 43
 have hcap:n≤ca∧ca≤9223372036854775807:=by rw[hn]; exact ⟨hta,htb⟩
 have hcap2:nr≤cr∧cr≤9223372036854775807:=by rw[hnr]; exact ⟨hr.1,hr.2.1⟩
 have hsz:s.size≤4294967280:=by
  have h1:s.size=c.length:=by rw[hs]; simp[ByteArray.size]
  omega
 have HRD:=ZH (prat_any s hsz (hg.below hal) (by rw[hsl]; exact hc0))
 have HSL:=ZH hsl
 have HG:=ZH hg
 have HR:=ZH hr.2.2
 have HTC:=ZH htc
 have HT:=ZH ht
 have HAL:=ZH hal
 have HK0:=ZH k0
 have HK1:=ZH k1
 have HNE:=ZH (show bf≠br∧w.heap.size≤bf∧w.heap.size≤br by omega)
 have HN:=ZH (ZN hn (ZN hnr (ZN hL (ZN hK (ZN hS (ZN hb hc))))))
 have HW:=ZH (ZN hwa (ZN hbf hbr))
 rw[←hn,←hnr,←hs]
 have hn1:n≤1000:=by omega
 clear hwa hbf hbr hal k0 k1 hg hr hta htb htc ht hL hK hS hb hc hc0 hs hsl hsz
 obtain ⟨s0,s1⟩:=cells2 (ZR _ wa) HK0.out
 clear hn hnr
 go_enter Tryz.func102,Tryz.ntmps102
 go_upto_region 1 with fail
 rw[←HW.out.1,←HW.out.2.2,←HW.out.2.1]
 clear HW
 go_wp2_with fail
 refine HRD.out.mono ?_
 rintro e w1 ⟨v1,rfl,hr1,hb1⟩
 rw[HSL.out] at hr1
 obtain ⟨p1,g1,f1,n1,p2,g2,f2,n2,rfl⟩:=rt_shape hr1
 have HR1:=ZH hr1
 have HB1:=ZH hb1
 clear hr1 hb1 s0 s1
 go_upto_region 2 with fail
 obtain ⟨w2,bo,hw2,hbo,hl2,kb⟩:=new_box w1 #[.bool p1,.slice g1 f1 n1,.bool p2,.slice g2 f2 n2] 43
 rw[←hw2,←hbo]
 have HKB2:=ZH kb
 have HACC2:=ZH (show RtIn w2 (.agg #[.bool p1,.slice g1 f1 n1,.bool p2,.slice g2 f2 n2]) (valueTo c L rs 0) (S+2+0*(S+K+3)) from by
  rw[Nat.zero_mul]
  exact (HR1.out.below hl2).more (by have:=HN.out; omega))
 have hb12:=HB1.out.trans (hl2.mono HB1.out.size)
 have HB2:=ZH (HAL.out.trans (hb12.mono HAL.out.size))
 have HKF2:=ZH (ZN ((hb12.block bf (ZL HK0.out)).trans HK0.out) ((hb12.block br (ZL HK1.out)).trans HK1.out))
 have HBO:=ZH (show bf≠bo∧br≠bo∧w.heap.size≤bo by
  have h1:=ZL HK0.out
  have h2:=ZL HK1.out
  have h3:=HB1.out.size
  have h4:=HAL.out.size
  omega)
 clear hw2 hbo hl2 kb hb12 HR1 HB1 HK0 HK1
 go_wp2_with fail
 go_loopg [6] n (fun gk x wr=>∃k:Nat,k+gk=n∧x=.int .i64 k∧Hid (∃s1 a1 c1 l1 s2 a2 c2 l2,wr.heap[bo]?=some (.cells #[.bool s1,.slice a1 c1 l1,.bool s2,.slice a2 c2 l2] 43 (0,0))∧RtIn wr (.agg #[.bool s1,.slice a1 c1 l1,.bool s2,.slice a2 c2 l2]) (valueTo c L rs k) (S+2+k*(S+K+3)))∧Hid (wr.heap[bf]?=some (.cells #[.string s,.slice ao n ca] 57 (0,0))∧wr.heap[br]?=some (.cells #[.bool false,.slice none 0 0,.bool false,.slice none 0 0] 43 (0,0)))∧Hid (Below w.heap.size w wr))
 case atStart=>exact ⟨0,by omega,rfl,ZH ⟨_,_,_,_,_,_,_,_,HKB2.out,HACC2.out⟩,HKF2,HB2⟩
 case round=>
  obtain ⟨k,hk,rfl,hacc,hkf,hbw⟩:=hrel
  obtain ⟨s1,a1,c1,l1,s2,a2,c2,l2,hkb,hrt⟩:=hacc.out
  obtain ⟨x0,x1⟩:=cells2 (ZR _ wr) hkf.out.1
  by_cases hlt:k<n
  ·have e1:((k:Int)<(n:Int))=True:=eq_true (by omega)
   obtain ⟨g,o,rfl,-,hcc⟩:=HTC.out (by have:=HN.out.1; omega)
   have hx:=hcc k (by have:=HN.out.1; omega)
   have htk:=HT.out k (by have:=HN.out.1; omega)
   have hvs:=valueTo_succ (c:=c) (rs:=rs) (show k<L.length by have:=HN.out.1; omega)
   obtain ⟨⟨ti,tl⟩,htt⟩:∃x,x=L.getD k (0,[]):=⟨_,rfl⟩
   rw[←htt] at hx htk hvs
   simp only[] at hx htk hvs
   obtain ⟨tt,htx⟩:∃s:ByteArray,s=⟨tl.toArray⟩:=⟨_,rfl⟩
   rw[←htx] at hx
   have htr:ti<rs.length:=htk.1
   obtain ⟨rb,ro,rfl,-,hrc⟩:=HR.out (by omega)
   obtain ⟨q,hq⟩:∃x,x=rs.getD ti 0:=⟨_,rfl⟩
   obtain ⟨tq,htq⟩:∃x,x=readVal tl:=⟨_,rfl⟩
   have hy:=hrc ti htr
   rw[←hq] at hy hvs
   rw[←htq] at hvs
   have hrd:=fun (W:World) (hgW:Glob W)=>prat_any tt (by
    have h1:tt.size=tl.length:=by rw[htx]; simp[ByteArray.size]
    have h2:=HN.out
    omega) hgW (by rw[htx]; exact htk.2.2)
   rw[show tt.data.toList=tl by rw[htx],←htq] at hrd
   obtain ⟨t1,b1,d1,m1,t2,b2,d2,m2,r0,r1,r2,r3,hrq⟩:=hy
   have HX:=ZH (ZN (ZJ hbw.out hx.1) (ZJ hbw.out hx.2))
   have HY:=ZH (ZN (ZJ hbw.out r0) (ZN (ZJ hbw.out r1) (ZN (ZJ hbw.out r2) (ZN (ZJ hbw.out r3) (hrq.below hbw.out)))))
   have HRDT:=ZH hrd
   have HVS:=ZH hvs
   have HLT:=ZH (ZN hlt (ZN htr htk.2.1))
   have HKB:=ZH hkb
   have HACC:=ZH hrt
   have hk0:(0:Int)≤(k:Int):=by omega
   have hk1:(k:Int)<(n:Int):=by omega
   obtain ⟨va,hva⟩:∃x,x=valueTo c L rs k:=⟨_,rfl⟩
   rw[←hva] at HACC HVS
   have HWR:=ZH (ZR wr.heap.size wr)
   have HBW:=ZH hbw.out
   have HGW:=ZH (HG.out.below HBW.out)
   have HKF:=ZH hkf.out
   have HBD:=ZH (show S+2+k*(S+K+3)+(S+2+K)+1≤900000 by
    have h1:=HN.out.2.2.2.2.2.1
    have h2:(k+1)*(S+K+3)≤(L.length+1)*(S+K+3):=Nat.mul_le_mul_right _ (by have h3:=HLT.out.1; have h4:=HN.out.1; omega)
    rw[Nat.add_mul,Nat.one_mul] at h2
    omega)
   have ht0:(0:Int)≤(ti:Int):=by omega
   have ht1:(ti:Int)<(nr:Int):=by have:=HN.out.2.1; have:=HLT.out.2.1; omega
   clear htr hcc hx htk hvs htt htx hrc hq htq hrd r0 r1 r2 r3 hrq hlt hkb hrt hacc hva hbw hkf
   go_upto_region 5 with fail
   clear x0 x1
   refine FlowR.wp_region_sel (fun a b=>Below a.heap.size a b) (fun a=>ZR _ a) (fun _ _ _ h k=>h.trans (k.mono h.size)) [0,1,2,3,4,5,6,7,8,9,10,11,12,13,14,15,16,17,18] [false,false,false,false,false,false,false,false,false,false,false,false,false,false,false,false,false,false,false,false] [true,true,true,true,true,true,true,true,true,true,true,true,true,true,true,true,true,true,true,false] (fun i9 v w'=>match i9 with
    | 0=>v=.agg #[.bool s1,.slice a1 c1 l1,.bool s2,.slice a2 c2 l2]
    | 1=>v=.pointer (some ⟨bf,1,none⟩)
    | 2=>v=.slice (some ⟨g,o,none⟩) n ca
    | 3=>v=.int .i64 (k:Int)
    | 4=>v=.pointer (some ⟨g,o+k*2,none⟩)
    | 5=>v=.pointer (some ⟨g,o+k*2+1,none⟩)
    | 6=>v=.string tt
    | 7=>RtIn w' v tq (S+2)
    | 8=>v=.slice (some ⟨rb,ro,none⟩) nr cr
    | 9=>v=.pointer (some ⟨bf,1,none⟩)
    | 10=>v=.slice (some ⟨g,o,none⟩) n ca
    | 11=>v=.int .i64 (k:Int)
    | 12=>v=.pointer (some ⟨g,o+k*2,none⟩)
    | 13=>v=.pointer (some ⟨g,o+k*2,none⟩)
    | 14=>v=.int .i64 (ti:Int)
    | 15=>v=.pointer (some ⟨rb,ro+ti*4,none⟩)
    | 16=>v=.agg #[.bool t1,.slice b1 d1 m1,.bool t2,.slice b2 d2 m2]
    | 17=>RtIn w' v (tq*q) (S+2+K)
    | _=>RtIn w' v (va+tq*q) (S+2+k*(S+K+3)+(S+2+K)+1)) rfl rfl (by kernel_rfl) (by kernel_rfl) (by kernel_rfl) (by kernel_rfl) ?st ?steps ?fin
   case st=>
    intro i9 v u1 u2 h hb
    match i9 with
    | 0 | 1 | 2 | 3 | 4 | 5 | 6 | 8 | 9 | 10 | 11 | 12 | 13 | 14 | 15 | 16=>exact h
    | 7=>exact (show RtIn u1 v tq (S+2) from h).below hb
    | 17=>exact (show RtIn u1 v (tq*q) (S+2+K) from h).below hb
    | 18 | _+19=>exact (show RtIn u1 v (va+tq*q) (S+2+k*(S+K+3)+(S+2+K)+1) from h).below hb
   case steps=>
    refine zSc (zSo rfl ?s0) (zSc (zSo rfl ?s1) (zSc (zSo rfl ?s2) (zSc (zSo rfl ?s3) (zSc (zSo rfl ?s4) (zSc (zSo rfl ?s5) (zSc (zSo rfl ?s6) (zSc (zSo rfl ?s7) (zSc (zSo rfl ?s8) (zSc (zSo rfl ?s9) (zSc (zSo rfl ?s10) (zSc (zSo rfl ?s11) (zSc (zSo rfl ?s12) (zSc (zSo rfl ?s13) (zSc (zSo rfl ?s14) (zSc (zSo rfl ?s15) (zSc (zSo rfl ?s16) (zSc (zSo rfl ?s17) (zSc (zSo rfl ?s18) zSn))))))))))))))))))
    case s0=>
     intro xs w' hb hT K9 hK9
     clear hT
     simp only[zFp,zAp,zLa,zLb,zLc,Nat.reduceAdd,zNz] at hK9⊢
     have hw:=Flow.hwD HWR.out hb
     have kb:=(hw.block bo (ZL HKB.out)).trans HKB.out
     have y0:=ZI kb 0
     have y1:=ZI kb 1
     have y2:=ZI kb 2
     have y3:=ZI kb 3
     clear kb
     simp at y0 y1 y2 y3
     go_simp
     exact hK9 _ _ (ZR _ _) rfl
    case s1 | s3 | s8 | s9 | s11=>
     intro xs w' hb hT K9 hK9
     clear hT
     simp only[zFp,zAp,zLa,zLb,zLc,Nat.reduceAdd,zNz] at hK9⊢
     have hw:=Flow.hwD HWR.out hb
     go_simp
     exact hK9 _ _ (ZR _ _) rfl
    case s2=>
     intro xs w' hb hT K9 hK9
     have h1:(xs 1)=.pointer (some ⟨bf,1,none⟩):=hT 1 (by kernel_rfl)
     clear hT
     simp only[zFp,zAp,zLa,zLb,zLc,Nat.reduceAdd,zNz] at hK9⊢
     have hw:=Flow.hwD HWR.out hb
     have kb:=(hw.block bf (ZL HKF.out.1)).trans HKF.out.1
     have y0:=ZI kb 1
     clear kb
     simp at y0
     (try simp only[h1] at hK9)
     go_simp
     exact hK9 _ _ (ZR _ _) rfl
    case s4=>
     intro xs w' hb hT K9 hK9
     have h2:(xs 2)=.slice (some ⟨g,o,none⟩) n ca:=hT 2 (by kernel_rfl)
     have h3:(xs 3)=.int .i64 (k:Int):=hT 3 (by kernel_rfl)
     clear hT
     simp only[zFp,zAp,zLa,zLb,zLc,Nat.reduceAdd,zNz] at hK9⊢
     have hw:=Flow.hwD HWR.out hb
     (try simp only[h2] at hK9)
     (try simp only[h3] at hK9)
     go_simp
     exact hK9 _ _ (ZR _ _) rfl
    case s5=>
     intro xs w' hb hT K9 hK9
     have h4:(xs 4)=.pointer (some ⟨g,o+k*2,none⟩):=hT 4 (by kernel_rfl)
     clear hT
     simp only[zFp,zAp,zLa,zLb,zLc,Nat.reduceAdd,zNz] at hK9⊢
     have hw:=Flow.hwD HWR.out hb
     (try simp only[h4] at hK9)
     go_simp
     exact hK9 _ _ (ZR _ _) rfl
    case s6=>
     intro xs w' hb hT K9 hK9
     have h5:(xs 5)=.pointer (some ⟨g,o+k*2+1,none⟩):=hT 5 (by kernel_rfl)
     clear hT
     simp only[zFp,zAp,zLa,zLb,zLc,Nat.reduceAdd,zNz] at hK9⊢
     have hw:=Flow.hwD HWR.out hb
     (try simp only[h5] at hK9)
     have y0:=ZJ hw HX.out.2
     go_simp
     exact hK9 _ _ (ZR _ _) rfl
    case s7=>
     intro xs w' hb hT K9 hK9
     have h6:(xs 6)=.string tt:=hT 6 (by kernel_rfl)
     clear hT
     simp only[zFp,zAp,zLa,zLb,zLc,Nat.reduceAdd,zNz] at hK9⊢
     have hw:=Flow.hwD HWR.out hb
     (try simp only[h6] at hK9)
     go_simp
     go_at_call 43
     refine (HRDT.out w' (HGW.out.below hw)).mono ?_
     rintro e w3 ⟨v3,rfl,hi3,hb3⟩
     exact hK9 _ _ hb3 (hi3.more (by have:=HLT.out.2.2; omega))
    case s10=>
     intro xs w' hb hT K9 hK9
     have h9:(xs 9)=.pointer (some ⟨bf,1,none⟩):=hT 9 (by kernel_rfl)
     clear hT
     simp only[zFp,zAp,zLa,zLb,zLc,Nat.reduceAdd,zNz] at hK9⊢
     have hw:=Flow.hwD HWR.out hb
     have kb:=(hw.block bf (ZL HKF.out.1)).trans HKF.out.1
     have y0:=ZI kb 1
     clear kb
     simp at y0
     (try simp only[h9] at hK9)
     go_simp
     exact hK9 _ _ (ZR _ _) rfl
    case s12=>
     intro xs w' hb hT K9 hK9
     have h10:(xs 10)=.slice (some ⟨g,o,none⟩) n ca:=hT 10 (by kernel_rfl)
     have h11:(xs 11)=.int .i64 (k:Int):=hT 11 (by kernel_rfl)
     clear hT
     simp only[zFp,zAp,zLa,zLb,zLc,Nat.reduceAdd,zNz] at hK9⊢
     have hw:=Flow.hwD HWR.out hb
     (try simp only[h10] at hK9)
     (try simp only[h11] at hK9)
     go_simp
     exact hK9 _ _ (ZR _ _) rfl
    case s13=>
     intro xs w' hb hT K9 hK9
     have h12:(xs 12)=.pointer (some ⟨g,o+k*2,none⟩):=hT 12 (by kernel_rfl)
     clear hT
     simp only[zFp,zAp,zLa,zLb,zLc,Nat.reduceAdd,zNz] at hK9⊢
     have hw:=Flow.hwD HWR.out hb
     (try simp only[h12] at hK9)
     go_simp
     exact hK9 _ _ (ZR _ _) rfl
    case s14=>
     intro xs w' hb hT K9 hK9
     have h13:(xs 13)=.pointer (some ⟨g,o+k*2,none⟩):=hT 13 (by kernel_rfl)
     clear hT
     simp only[zFp,zAp,zLa,zLb,zLc,Nat.reduceAdd,zNz] at hK9⊢
     have hw:=Flow.hwD HWR.out hb
     (try simp only[h13] at hK9)
     have y0:=ZJ hw HX.out.1
     go_simp
     exact hK9 _ _ (ZR _ _) rfl
    case s15=>
     intro xs w' hb hT K9 hK9
     have h8:(xs 8)=.slice (some ⟨rb,ro,none⟩) nr cr:=hT 8 (by kernel_rfl)
     have h14:(xs 14)=.int .i64 (ti:Int):=hT 14 (by kernel_rfl)
     clear hT
     simp only[zFp,zAp,zLa,zLb,zLc,Nat.reduceAdd,zNz] at hK9⊢
     have hw:=Flow.hwD HWR.out hb
     (try simp only[h8] at hK9)
     (try simp only[h14] at hK9)
     go_simp
     exact hK9 _ _ (ZR _ _) rfl
    case s16=>
     intro xs w' hb hT K9 hK9
     have h15:(xs 15)=.pointer (some ⟨rb,ro+ti*4,none⟩):=hT 15 (by kernel_rfl)
     clear hT
     simp only[zFp,zAp,zLa,zLb,zLc,Nat.reduceAdd,zNz] at hK9⊢
     have hw:=Flow.hwD HWR.out hb
     (try simp only[h15] at hK9)
     have y0:=ZJ hw HY.out.1
     have y1:=ZJ hw HY.out.2.1
     have y2:=ZJ hw HY.out.2.2.1
     have y3:=ZJ hw HY.out.2.2.2.1
     go_simp
     exact hK9 _ _ (ZR _ _) rfl
    case s17=>
     intro xs w' hb hT K9 hK9
     have h7:RtIn w' (xs 7) tq (S+2):=hT 7 (by kernel_rfl)
     have h16:(xs 16)=.agg #[.bool t1,.slice b1 d1 m1,.bool t2,.slice b2 d2 m2]:=hT 16 (by kernel_rfl)
     clear hT
     simp only[zFp,zAp,zLa,zLb,zLc,Nat.reduceAdd,zNz] at hK9⊢
     have hw:=Flow.hwD HWR.out hb
     (try simp only[h16] at hK9)
     go_simp
     go_at_call 74
     refine (ratMul_any h7 (HY.out.2.2.2.2.below hw) (by omega) HN.out.2.2.2.1 (by have:=HBD.out; omega)).mono ?_
     rintro e w3 ⟨v3,rfl,hi3,hb3⟩
     exact hK9 _ _ hb3 hi3
    case s18=>
     intro xs w' hb hT K9 hK9
     have h0:(xs 0)=.agg #[.bool s1,.slice a1 c1 l1,.bool s2,.slice a2 c2 l2]:=hT 0 (by kernel_rfl)
     have h17:RtIn w' (xs 17) (tq*q) (S+2+K):=hT 17 (by kernel_rfl)
     clear hT
     simp only[zFp,zAp,zLa,zLb,zLc,Nat.reduceAdd,zNz] at hK9⊢
     have hw:=Flow.hwD HWR.out hb
     (try simp only[h0] at hK9)
     go_simp
     go_at_call 79
     refine (ratAdd_any (HACC.out.below hw) h17 (by omega) (by omega) HBD.out).mono ?_
     rintro e w3 ⟨v3,rfl,hi3,hb3⟩
     exact hK9 _ _ hb3 hi3
   case fin=>
    intro xs w' hb hT
    have hw:=Flow.hwD HWR.out hb
    have h18:RtIn w' (xs 18) (va+tq*q) (S+2+k*(S+K+3)+(S+2+K)+1):=hT 18 (by rfl)
    clear hT
    simp only[zFp,zAp,zLa,zLb,zLc,Nat.reduceAdd,zNz,FlowR.restL,FlowR.orM,Bool.false_or]
    obtain ⟨p1',g3,i3,j3,p2',g4,i4,j4,e9⟩:=rt_shape h18
    rw[e9] at h18
    simp only[e9]
    clear e9
    have k9:=(hw.block bo (ZL HKB.out)).trans HKB.out
    have f0:=ZF k9 0
    have f1':=ZF k9 1
    have f2':=ZF k9 2
    have f3':=ZF k9 3
    obtain ⟨o0,o1,o2,o3⟩:=cells4 (ZR _ w') k9
    have hst:=rat_put k9 HBO.out.2.2 (HBW.out.trans (hw.mono HBW.out.size)) h18
    have hf9:=(hw.block bf (ZL HKF.out.1)).trans HKF.out.1
    have hr9:=(hw.block br (ZL HKF.out.2)).trans HKF.out.2
    have hf8:=(hst.but.block bf HBO.out.1 (ZL hf9)).trans hf9
    have hr8:=(hst.but.block br HBO.out.2.1 (ZL hr9)).trans hr9
    have HF:=ZH (ZN hst (ZN hf8 hr8))
    clear h18 k9 hst hf9 hr9 hf8 hr8 hw hb
    go_wp2_with fail
    go_roundg (n-(k+1))
    case measure=>have:=HLT.out.1; omega
    case rel=>exact ⟨k+1,by have:=HLT.out.1; omega,by congr 1,ZH ⟨_,_,_,_,_,_,_,_,HF.out.1.block,by rw[HVS.out,show S+2+(k+1)*(S+K+3)=S+2+k*(S+K+3)+(S+2+K)+1 by rw[Nat.add_mul,Nat.one_mul]; omega]; exact HF.out.1.rt⟩,ZH HF.out.2,ZH HF.out.1.below⟩
  ·have e1:((k:Int)<(n:Int))=False:=eq_false (by omega)
   obtain rfl:k=n:=by omega
   have HBW:=ZH hbw.out
   obtain ⟨y0,y1,y2,y3⟩:=cells4 (ZR _ wr) hkb
   have hkr:=hkf.out.2
   obtain ⟨z0,z1,z2,z3⟩:=cells4 (ZR _ wr) hkr
   have q0:=ZF hkr 0
   have q1:=ZF hkr 1
   have q2:=ZF hkr 2
   have q3:=ZF hkr 3
   have hst:=rat_put hkr HNE.out.2.2 HBW.out hrt
   have HF:=ZH hst
   clear hacc hkf hkb hrt hbw hkr hst
   go_wp2_with fail
   exact bodyPost_ret (v:=.agg #[.bool s1,.slice a1 c1 l1,.bool s2,.slice a2 c2 l2]) (by simp[results,Tryz.results102,go_sem,z0,z1,z2,z3]) rfl ⟨_,rfl,by have h:=HF.out.rt; rw[HN.out.1] at h⊢; exact h,HF.out.below⟩
end Go.Proofs.YtdgimcmappmjdaaGreatDoor
