/- DimensionValues: the walk and the plain law. -/
import Derived.Test.YtdgimcmappmjdaaGreatDoorK6
import Derived.Test.YtdgimcmappmjdaaGreatDoorKR
import Derived.Test.YtdgimcmappmjdaaGreatDoorKQ
import Derived.Test.YtdgimcmappmjdaaGreatDoorPEvalM
import Derived.Test.YtdgimcmappmjdaaGreatDoorMNominalM
set_option linter.unusedSimpArgs false
set_option linter.unusedVariables false
set_option maxRecDepth 100000
namespace Go.Proofs.YtdgimcmappmjdaaGreatDoor
open List renaming setIfInBounds_toArray → zLa, set_cons_zero → zLb, set_cons_succ → zLc
open FlowR renaming putSel → zFp
open Act renaming put → zAp
open Nat renaming zero_add → zNz
open Flow.Steps renaming cons → zSc, nil → zSn
open FlowR.Step renaming of → zSo
open Go.RowKit Go.Num Go.Flow Go.Dtm
open Go.Gx (LF GEx eval dep Over)
set_option maxHeartbeats 16000000
set_option linter.unusedVariables false

theorem cmpq_self (a:Rat):cmpQ a a=0:=by
 unfold cmpQ
 rw[if_neg (Rat.not_lt.2 Rat.le_refl)]
 exact if_neg (Rat.not_lt.2 Rat.le_refl)
theorem RatsAt.take {w:World} {ao:Option Addr} {c:Nat} {rs:List Rat} {K k:Nat} (h:RatsAt w ao c rs K) (hk:k≤rs.length):RatsAt w ao c (rs.take k) K:=by
 have hl:(rs.take k).length=k:=by rw[List.length_take]; omega
 refine ⟨by rw[hl]; exact Nat.le_trans hk h.1,h.2.1,fun h0=>?_⟩
 obtain ⟨b,off,e,hb,hc⟩:=h.2.2 (by omega)
 refine ⟨b,off,e,hb,fun j hj=>?_⟩
 have h9:=hc j (by omega)
 have e9:(rs.take k).getD j 0=rs.getD j 0:=by
  rw[List.getD_eq_getElem?_getD,List.getD_eq_getElem?_getD,List.getElem?_take,if_pos (by omega)]
 rw[e9]
 exact h9
structure OneBox (B p:Nat) (L:Nat→Bool) (xs:Nat→Value) (w:World):Prop where
 one:L p=true→∃b,xs p=.pointer (some ⟨b,0,none⟩)∧B≤b∧w.heap[b]?=some (.cells #[.bool false,.slice none 0 0,.bool false,.slice none 0 0] 43 (0,0))
section
variable {B p q:Nat} {L L':Nat→Bool} {xs xs':Nat→Value} {w w':World}
theorem OneBox.init (xs:Nat→Value) (w:World):OneBox B p (fun _=>false) xs w:=⟨fun e=>by simp at e⟩
theorem OneBox.below (h:OneBox B p L xs w) (hp:L' p=L p∧xs' p=xs p) (hb:Below w.heap.size w w'):OneBox B p L' xs' w':=by
 refine ⟨fun e=>?_⟩
 rw[hp.1] at e
 obtain ⟨b,h1,h2,h3⟩:=h.one e
 exact ⟨b,by rw[hp.2]; exact h1,h2,(hb.block b (ZL h3)).trans h3⟩
theorem OneBox.make (hB:B≤w.heap.size):OneBox B p (FlowX.setL L p) (upd xs p (.pointer (some ⟨w.heap.size,0,none⟩))) (w.alloc (.cells #[.bool false,.slice none 0 0,.bool false,.slice none 0 0] 43)):=
 ⟨fun _=>⟨_,by unfold upd; rw[if_pos rfl],hB,ZW w _⟩⟩
theorem OneBox.put (hq:p≠q) {b:Nat} (hx:xs p=.pointer (some ⟨b,0,none⟩)) (hB:B≤b) (hk:w.heap[b]?=some (.cells #[.bool false,.slice none 0 0,.bool false,.slice none 0 0] 43 (0,0))) (v:Value):OneBox B p (FlowX.setL L q) (upd xs q v) ((((w.setCell ⟨b,0,none⟩ (.bool false)).setCell ⟨b,1,none⟩ (.slice none 0 0)).setCell ⟨b,2,none⟩ (.bool false)).setCell ⟨b,3,none⟩ (.slice none 0 0)):=
 ⟨fun _=>⟨b,by unfold upd; rw[if_neg hq]; exact hx,hB,four_set hk _ _ _ _⟩⟩
end
theorem said_DimensionValues {w:World} (hG:Glob w) {v0 v1:Value} {l:List Trip} {ns:List Int} (hc:ChainIn w v0 l) (hns:PartsIn w v1 ns) {n0 n1 n2 n3:Int} (hq:(0≤n0∧n0≤255)∧(0≤n1∧n1≤255)∧(0≤n2∧n2≤255)∧(0≤n3∧n3≤255)):Calls Tryz.prog 9 #[v0,v1,.agg #[.int .u8 n0,.int .u8 n1,.int .u8 n2,.int .u8 n3]] w fun e w'=>e=.returned (.bool true)∧Below w.heap.size w w':=by
 have HLO:=ZH (chain_ok hc)
 have HC:=ZH hc
 have HNS:=ZH hns
 obtain ⟨ao,c,rfl,h1,h2,h3⟩:=hc
 obtain ⟨an,cn,rfl,m1,m2,m3⟩:=hns
 obtain ⟨n,hn⟩:∃n,n=l.length:=⟨_,rfl⟩
 obtain ⟨m,hm⟩:∃n,n=ns.length:=⟨_,rfl⟩
 obtain ⟨wa,ba,bp,hwa,hba,hbp,hal,k0,k1⟩:=new_two w #[.slice ao n c] #[.int .u8 n0,.int .u8 n1,.int .u8 n2,.int .u8 n3] 48 89
 have hcap:n≤c∧c≤9223372036854775807:=by rw[hn]; exact ⟨h1,h2⟩
 have hcap2:m≤cn∧cn≤9223372036854775807:=by rw[hm]; exact ⟨m1,m2⟩
 rw[←hn] at HC
 rw[←hm] at HNS
 have HNM:=ZH (ZN hn hm)
 have HG:=ZH (hG.below hal)
 have HW:=ZH (ZN hwa (ZN hba hbp))
 have HK:=ZH (ZN k0 k1)
 have HAL:=ZH hal
 have HQ:=ZH hq
 rw[←hn,←hm]
 clear hwa hba hbp hal k0 k1 hG h1 h2 h3 m1 m2 m3 hn hm hq
 go_enter Tryz.func9,Tryz.ntmps9
 go_upto_region 1 with fail
 rw[←HW.out.1,←HW.out.2.2,←HW.out.2.1]
 clear HW
 go_wp2_with fail
 refine (pknown_any HG.out).mono ?_
 rintro e w1 ⟨rfl,hb1⟩
 have HB1:=ZH hb1
 have HKN:=ZH (pknown_any (HG.out.below hb1))
 have x0:=cells1 hb1 HK.out.1
 clear hb1
 have e0:(6<(n:Int))=(6<n):=propext (by omega)
 have e00:(100<(m:Int))=(100<m):=propext (by omega)
 by_cases hn6:6<n
 ·have e1:((6:Int)<(n:Int))=True:=eq_true (by omega)
  clear e0 e00
  go_wp2_with fail
  refine HKN.out.mono ?_
  rintro e w2 ⟨rfl,hb2⟩
  have HF:=ZH (HAL.out.trans ((HB1.out.trans (hb2.mono HB1.out.size)).mono HAL.out.size))
  clear hb2
  go_wp2_with fail
  go_ret
  exact ⟨rfl,HF.out⟩
 have e1:((6:Int)<(n:Int))=False:=eq_false (by omega)
 by_cases hm8:100<m
 ·have e2:((100:Int)<(m:Int))=True:=eq_true (by omega)
  clear e0 e00
  go_wp2_with fail
  refine HKN.out.mono ?_
  rintro e w2 ⟨rfl,hb2⟩
  have HF:=ZH (HAL.out.trans ((HB1.out.trans (hb2.mono HB1.out.size)).mono HAL.out.size))
  clear hb2
  go_wp2_with fail
  go_ret
  exact ⟨rfl,HF.out⟩
 have e2:((100:Int)<(m:Int))=False:=eq_false (by omega)
 clear e0 e00 HKN
 have HSZ:=ZH (show n≤6∧m≤100 by omega)
 go_wp2_with fail
 refine (pDimensions_any ((HC.out.below HAL.out).below HB1.out)).mono ?_
 rintro e w2 ⟨vd,rfl,hrow2,hb2⟩
 obtain ⟨ad,cd,rfl,hdi⟩:=dims_read hrow2
 obtain ⟨CL,hCL⟩:∃x,x=chainLen l:=⟨_,rfl⟩
 have hcl4:1≤CL∧CL≤4:=by rw[hCL]; unfold chainLen; split<;>omega
 rw[←hCL] at hdi
 have hlen:(chainDims l CL).length=CL:=chainDims_len l CL
 have hcap3:CL≤cd∧cd≤9223372036854775807:=by have:=hdi; exact ⟨by have:=this.1; omega,this.2.1⟩
 rw[←hCL,hlen]
 obtain ⟨D,hD⟩:∃x,x=chainDims l CL:=⟨_,rfl⟩
 rw[←hD] at hdi hlen
 have HDI:=ZH hdi
 have HCL:=ZH (ZN hcl4 hlen)
 have hb12:=HB1.out.trans (hb2.mono HB1.out.size)
 have HB2:=ZH (HAL.out.trans (hb12.mono HAL.out.size))
 have HBD:=ZH (show ∀j,j<D.length→(-1000000000≤(D.getD j Dm.none).nominal∧(D.getD j Dm.none).nominal≤1000000000)∧(-1000000000≤(D.getD j Dm.none).lower∧(D.getD j Dm.none).lower≤1000000000)∧(-1000000000≤(D.getD j Dm.none).upper∧(D.getD j Dm.none).upper≤1000000000) from fun j hj=>by
  rw[hlen] at hj
  rw[hD,chain_getD l hj]
  have h9:=chain_bound l HLO.out j
  omega)
 have HG2:=ZH (HG.out.below hb12)
 have HNS2:=ZH (HNS.out.below HB2.out)
 have HKP:=ZH ((hb12.block bp (ZL HK.out.2)).trans HK.out.2)
 clear hrow2 hb2 hb12 hdi hCL hcl4 hlen hD HC HNS HB1 HAL HK HG x0 e1 e2 hn6 hm8 hcap HLO
 -- the expression
 go_wp2_with fail
 refine (pGrow_any HG2.out HNS2.out (by have:=HCL.out; omega) (by have:=HCL.out; omega)).mono ?_
 rintro e w3 ⟨vx,rfl,hx3,hb3⟩
 have hgf:=growE_fine (d:=CL) (by have:=HCL.out; omega) 4 (ns.take 60) 0
 have hlt:=grow_lite (Nat.le_refl 4) hgf
 obtain ⟨x,hxe⟩:∃x,x=(growE CL 4 (ns.take 60) 0).1:=⟨_,rfl⟩
 rw[←hxe] at hgf hlt hx3
 have HX:=ZH (show EvFine CL x∧UptoG CL x∧dep x≤5∧bsz x≤30000∧Over CL x from ⟨⟨hgf.over,hlt.1,by have h9:=esz_le x; omega⟩,over_upto hgf.over,hgf.dep,hlt.2,hgf.over⟩)
 have hex:=hx3.reads
 obtain ⟨tv,aa,ac,rfl,htz,hax⟩:=hex.out
 rw[raw_op,raw_args,raws_len] at hex⊢
 obtain ⟨ta,tc,rfl,-⟩:=id htz
 obtain ⟨s0,hs0⟩:∃s:ByteArray,s=⟨(raw x).c.toArray⟩:=⟨_,rfl⟩
 obtain ⟨s1,hs1⟩:∃s:ByteArray,s=⟨(raw x).f.toArray⟩:=⟨_,rfl⟩
 obtain ⟨tn,htn⟩:∃x',x'=(raw x).t.length:=⟨_,rfl⟩
 obtain ⟨xn,hxn⟩:∃x',x'=(argG x).length:=⟨_,rfl⟩
 obtain ⟨o,ho⟩:∃x',x'=opG x:=⟨_,rfl⟩
 rw[←hs0,←hs1,←htn,←hxn,←ho] at hex⊢
 rw[←htn] at htz
 have HEX:=ZH (ZN hex (ZN htz (ZN hs0 ho)))
 have HB3:=ZH hb3
 clear hgf hlt hxe hx3 hex htz hax hs0 hs1 htn hxn ho hb3
 go_upto_region 5 with fail
 obtain ⟨w4,bx,hw4,hbx,hl4,k4⟩:=new_box w3 #[.int .i64 o,.string s0,.slice ta tn tc,.string s1,.slice aa xn ac] 63
 rw[←hw4,←hbx]
 have h24:=HB3.out.trans (hl4.mono HB3.out.size)
 have HB4:=ZH (HB2.out.trans (h24.mono HB2.out.size))
 have HKX4:=ZH k4
 have HE4:=ZH (ZN (HEX.out.1.below hl4) (HEX.out.2.1.below hl4))
 have HG4:=ZH (HG2.out.below h24)
 have HD4:=ZH (HDI.out.below h24)
 have hkp:=(h24.block bp (ZL HKP.out)).trans HKP.out
 obtain ⟨z0,z1,z2,z3⟩:=cells4 (ZR _ w4) hkp
 clear hw4 hbx hl4 k4 h24 HB3 HB2 HG2 HNS2 HKP HDI
 -- the values
 have hpt:=pPoint_any HD4.out (by have:=HCL.out; omega) HBD.out HQ.out.1 HQ.out.2.1 HQ.out.2.2.1 HQ.out.2.2.2
 rw[HCL.out.2] at hpt
 have HPT:=ZH hpt
 clear hpt hkp
 go_wp2_with fail
 refine HPT.out.mono ?_
 rintro e w5 ⟨vp,rfl,hpp,hb5⟩
 obtain ⟨ar,cr,rfl,hra⟩:=hpp.reads
 have hrl:(ptTo D (n0,n1,n2,n3) CL).length=CL:=ptTo_len _ _ _
 obtain ⟨rs,hrs⟩:∃rs,rs=ptTo D (n0,n1,n2,n3) CL:=⟨_,rfl⟩
 rw[←hrs] at hra hrl
 rw[←hrs,hrl]
 have hcap4:CL≤cr∧cr≤9223372036854775807:=by have:=hra; exact ⟨by have:=this.1; omega,this.2.1⟩
 have HRA:=ZH (ZN hra hrl)
 have HB5:=ZH (HB4.out.trans (hb5.mono HB4.out.size))
 have HKX5:=ZH ((hb5.block bx (ZL HKX4.out)).trans HKX4.out)
 have HE5:=ZH (ZN (HE4.out.1.below hb5) (HE4.out.2.below hb5))
 have HG5:=ZH (HG4.out.below hb5)
 clear hpp hra hrl hrs hb5 HPT HB4 HKX4 HE4 HG4 HD4 z0 z1 z2 z3
 obtain ⟨z0,z1,z2,z3,z4⟩:=cells5 (ZR _ w5) HKX5.out
 -- Evaluate
 have HEV:=ZH (show ∀(W:World),Below w5.heap.size w5 W→Calls Tryz.prog 49 #[.agg #[.int .i64 o,.string s0,.slice ta tn tc,.string s1,.slice aa xn ac],.slice ar CL cr] W (EvPost W rs x) from fun W hW=>by
  have h:=mEvaluate_any (n:=CL) (by have:=HCL.out; omega) (rs:=rs) (K:=9) (by omega) 5 x HX.out.2.2.1 HX.out.1 W _ ar cr (HG5.out.below hW) (HRA.out.1.below hW) (HE5.out.1.below hW)
  rwa[HRA.out.2] at h)
 have HEV1:=ZH (HEV.out w5 (ZR _ _))
 unfold EvPost at HEV1
 go_wp2_with fail
 refine HEV1.out.mono ?_
 rintro e w6 ⟨hb6,hc⟩
 rcases hc with ⟨hu,v1,rfl,hv⟩ | ⟨hu,rfl⟩
 case inr=>exact absurd (by rw[HRA.out.2]; exact HX.out.2.1) hu
 obtain ⟨p1,g1,f1,q1,p2,g2,f2,q2,rfl⟩:=rt_shape hv
 have HV6:=ZH hv
 have HB6:=ZH hb6
 clear hv hb6 hu HEV1 z0 z1 z2 z3 z4
 go_upto_region 7 with fail
 obtain ⟨w7,bv,hw7,hbv,hl7,k7⟩:=new_box w6 #[.bool p1,.slice g1 f1 q1,.bool p2,.slice g2 f2 q2] 43
 rw[←hw7,←hbv]
 have h57:=HB6.out.trans (hl7.mono HB6.out.size)
 have HB7:=ZH (HB5.out.trans (h57.mono HB5.out.size))
 have H57:=ZH h57
 have HKX7:=ZH ((h57.block bx (ZL HKX5.out)).trans HKX5.out)
 have HV7:=ZH (ZN k7 (HV6.out.below hl7))
 have HE7:=ZH (ZN (HE5.out.1.below h57) (ZN (HE5.out.2.below h57) (ZN (HG5.out.below h57) (HRA.out.1.below h57))))
 have HSZE:=ZH (show 2≤esz x∧esz x≤100000 from ⟨esz_two x,HX.out.1.size⟩)
 have HW7:=ZH (ZR w7.heap.size w7)
 clear hw7 hbv hl7 k7 h57 HV6 HB6 HB5 HKX5
 refine FlowR.wp_region_sel (fun a b=>Below a.heap.size a b) (fun a=>ZR _ a) (fun _ _ _ h k=>h.trans (k.mono h.size)) [0,1,2,3,4,5,6,7,8,9] [false,false,false,false,false,false,false,false,false,false] [true,true,true,true,true,true,true,true,true,true] (fun i9 v w'=>match i9 with
  | 0=>v=.int .i64 0
  | 1=>v=.bool false
  | 2=>v=.bool false
  | 3=>(false)=false→v=.agg #[.bool p1,.slice g1 f1 q1,.bool p2,.slice g2 f2 q2]
  | 4=>(false)=false→v=.agg #[.int .i64 o,.string s0,.slice ta tn tc,.string s1,.slice aa xn ac]
  | 5=>(false)=false→v=.slice ar CL cr
  | 6=>(false)=false→RtIn w' v (eval rs x) (esz x)
  | 7=>(false)=false→v=.bool true
  | 8=>(false)=false→v=.bool false
  | _=>v=.bool (false || false)) rfl rfl (by kernel_rfl) (by kernel_rfl) (by kernel_rfl) (by kernel_rfl) ?st ?steps ?fin
 case st=>
  intro i9 v u1 u2 h hb
  match i9 with
  | 0 | 1 | 2 | 3 | 4 | 5 | 7 | 8 | 9 | _+10=>exact h
  | 6=>exact fun hq=>((show (false)=false→RtIn u1 v (eval rs x) (esz x) from h) hq).below hb
 case steps=>
  refine zSc (zSo rfl ?s0) (zSc (zSo rfl ?s1) (zSc (zSo rfl ?s2) (zSc (zSo rfl ?s3) (zSc (zSo rfl ?s4) (zSc (zSo rfl ?s5) (zSc (zSo rfl ?s6) (zSc (zSo rfl ?s7) (zSc (zSo rfl ?s8) (zSc (zSo rfl ?s9) zSn)))))))))
  case s0=>
   intro xs w' hb hT K9 hK9
   clear hT
   simp only[zFp,zAp,zLa,zLb,zLc,Nat.reduceAdd,zNz] at hK9⊢
   have hw:=Flow.hwD HW7.out hb
   go_simp
   exact hK9 _ _ (ZR _ _) rfl
  case s1=>
   intro xs w' hb hT K9 hK9
   have h0:(xs 0)=.int .i64 0:=hT 0 (by kernel_rfl)
   clear hT
   simp only[zFp,zAp,zLa,zLb,zLc,Nat.reduceAdd,zNz] at hK9⊢
   have hw:=Flow.hwD HW7.out hb
   (try simp only[h0] at hK9)
   go_simp
   exact hK9 _ _ (ZR _ _) rfl
  case s2=>
   intro xs w' hb hT K9 hK9
   have h1:(xs 1)=.bool false:=hT 1 (by kernel_rfl)
   clear hT
   simp only[zFp,zAp,zLa,zLb,zLc,Nat.reduceAdd,zNz] at hK9⊢
   have hw:=Flow.hwD HW7.out hb
   (try simp only[h1] at hK9)
   go_simp
   exact hK9 _ _ (ZR _ _) rfl
  case s3=>
   intro xs w' hb hT K9 hK9
   have h2:(xs 2)=.bool false:=hT 2 (by kernel_rfl)
   clear hT
   simp only[zFp,zAp,zLa,zLb,zLc,Nat.reduceAdd,zNz] at hK9⊢
   have hw:=Flow.hwD HW7.out hb
   have hg:(false)=false:=rfl
   have kb:=(hw.block bv (ZL HV7.out.1)).trans HV7.out.1
   have y0:=ZI kb 0
   have y1:=ZI kb 1
   have y2:=ZI kb 2
   have y3:=ZI kb 3
   clear kb
   simp at y0 y1 y2 y3
   (try simp only[h2] at hK9)
   go_simp
   exact hK9 _ _ (ZR _ _) (fun _=>rfl)
  case s4=>
   intro xs w' hb hT K9 hK9
   have h2:(xs 2)=.bool false:=hT 2 (by kernel_rfl)
   clear hT
   simp only[zFp,zAp,zLa,zLb,zLc,Nat.reduceAdd,zNz] at hK9⊢
   have hw:=Flow.hwD HW7.out hb
   have hg:(false)=false:=rfl
   have kb:=(hw.block bx (ZL HKX7.out)).trans HKX7.out
   have y0:=ZI kb 0
   have y1:=ZI kb 1
   have y2:=ZI kb 2
   have y3:=ZI kb 3
   have y4:=ZI kb 4
   clear kb
   simp at y0 y1 y2 y3 y4
   (try simp only[h2] at hK9)
   go_simp
   exact hK9 _ _ (ZR _ _) (fun _=>rfl)
  case s5=>
   intro xs w' hb hT K9 hK9
   have h2:(xs 2)=.bool false:=hT 2 (by kernel_rfl)
   clear hT
   simp only[zFp,zAp,zLa,zLb,zLc,Nat.reduceAdd,zNz] at hK9⊢
   have hw:=Flow.hwD HW7.out hb
   have hg:(false)=false:=rfl
   (try simp only[h2] at hK9)
   go_simp
   exact hK9 _ _ (ZR _ _) (fun _=>rfl)
  case s6=>
   intro xs w' hb hT K9 hK9
   have h2:(xs 2)=.bool false:=hT 2 (by kernel_rfl)
   have h4:(false)=false→(xs 4)=.agg #[.int .i64 o,.string s0,.slice ta tn tc,.string s1,.slice aa xn ac]:=hT 4 (by kernel_rfl)
   have h5:(false)=false→(xs 5)=.slice ar CL cr:=hT 5 (by kernel_rfl)
   clear hT
   simp only[zFp,zAp,zLa,zLb,zLc,Nat.reduceAdd,zNz] at hK9⊢
   have hw:=Flow.hwD HW7.out hb
   have hg:(false)=false:=rfl
   replace h4:=h4 hg
   replace h5:=h5 hg
   (try simp only[h2] at hK9)
   (try simp only[h4] at hK9)
   (try simp only[h5] at hK9)
   have hpe:=pevaluate_any (n:=CL) (by have:=HCL.out; omega) (rs:=rs) (K:=9) (by omega) 5 x HX.out.2.2.1 HX.out.1 (by rw[HRA.out.2]; exact HX.out.2.1) w' _ ar cr (HE7.out.2.2.1.below hw) (HE7.out.2.2.2.below hw) (HE7.out.1.below hw)
   rw[HRA.out.2] at hpe
   go_simp
   go_at_call 50
   refine hpe.mono ?_
   rintro e w3 ⟨hb3,v3,rfl,hi3⟩
   exact hK9 _ _ hb3 (fun _=>hi3)
  case s7=>
   intro xs w' hb hT K9 hK9
   have h2:(xs 2)=.bool false:=hT 2 (by kernel_rfl)
   have h3:(false)=false→(xs 3)=.agg #[.bool p1,.slice g1 f1 q1,.bool p2,.slice g2 f2 q2]:=hT 3 (by kernel_rfl)
   have h6:(false)=false→RtIn w' (xs 6) (eval rs x) (esz x):=hT 6 (by kernel_rfl)
   clear hT
   simp only[zFp,zAp,zLa,zLb,zLc,Nat.reduceAdd,zNz] at hK9⊢
   have hw:=Flow.hwD HW7.out hb
   have hg:(false)=false:=rfl
   replace h3:=h3 hg
   replace h6:=h6 hg
   (try simp only[h2] at hK9)
   (try simp only[h3] at hK9)
   go_simp
   go_at_call 22
   refine (pequal_any (HV7.out.2.below hw) h6 HSZE.out.1 HSZE.out.1 (by have:=HSZE.out; omega)).mono ?_
   rintro e w3 ⟨he3,hb3⟩
   rw[cmpq_self] at he3
   subst he3
   exact hK9 _ _ hb3 (fun _=>rfl)
  case s8=>
   intro xs w' hb hT K9 hK9
   have h2:(xs 2)=.bool false:=hT 2 (by kernel_rfl)
   have h7:(false)=false→(xs 7)=.bool true:=hT 7 (by kernel_rfl)
   clear hT
   simp only[zFp,zAp,zLa,zLb,zLc,Nat.reduceAdd,zNz] at hK9⊢
   have hw:=Flow.hwD HW7.out hb
   have hg:(false)=false:=rfl
   replace h7:=h7 hg
   (try simp only[h2] at hK9)
   (try simp only[h7] at hK9)
   go_simp
   exact hK9 _ _ (ZR _ _) (fun _=>rfl)
  case s9=>
   intro xs w' hb hT K9 hK9
   have h2:(xs 2)=.bool false:=hT 2 (by kernel_rfl)
   have h8:(false)=false→(xs 8)=.bool false:=hT 8 (by kernel_rfl)
   clear hT
   simp only[zFp,zAp,zLa,zLb,zLc,Nat.reduceAdd,zNz] at hK9⊢
   have hw:=Flow.hwD HW7.out hb
   have hg:(false)=false:=rfl
   replace h8:=h8 hg
   (try simp only[h2] at hK9)
   (try simp only[h8] at hK9)
   go_simp
   exact hK9 _ _ (ZR _ _) (by simp)
 case fin=>
  intro xs w' hb hT
  have hw:=Flow.hwD HW7.out hb
  have h9:(xs 9)=.bool (false || false):=hT 9 (by rfl)
  clear hT
  simp only[zFp,zAp,zLa,zLb,zLc,Nat.reduceAdd,zNz,FlowR.restL,FlowR.orM,Bool.false_or]
  have hb9:=hw
  have e55:xs 9=.bool false:=by simpa using h9
  simp only[e55]
  have HB9:=ZH (ZN (H57.out.trans (hb9.mono H57.out.size)) (ZN (HB7.out.trans (hb9.mono HB7.out.size)) (ZN ((hb9.block bx (ZL HKX7.out)).trans HKX7.out) (ZN ((hb9.block bv (ZL HV7.out.1)).trans HV7.out.1) (ZN (HV7.out.2.below hb9) (ZN (HE7.out.1.below hb9) (ZN (HE7.out.2.1.below hb9) (ZN (HE7.out.2.2.1.below hb9) (HE7.out.2.2.2.below hb9)))))))))
  clear h9 hb9 hw hb e55
  clear HB7 HKX7 HV7 HE7 HW7 H57
  obtain ⟨w9,hw9⟩:∃x,x=w':=⟨_,rfl⟩
  rw[←hw9] at HB9⊢
  clear hw9
  obtain ⟨z0,z1,z2,z3,z4⟩:=cells5 (ZR _ w9) HB9.out.2.2.1
  have HLAST:=ZH (show ∀(W:World),Below w9.heap.size w9 W→Calls Tryz.prog 51 #[.agg #[.int .i64 o,.string s0,.slice ta tn tc,.string s1,.slice aa xn ac]] W fun e w'=>e=.returned (.int .i64 (lastE (raw x)))∧Below W.heap.size W w' from fun W hW=>plast_any (n:=CL) (by have:=HCL.out; omega) 5 x HX.out.2.2.1 HX.out.2.2.2.2 (by have:=HX.out; omega) W _ (HB9.out.2.2.2.2.2.1.below hW))
  -- behind the form's value
  have HEND:=ZH (show ∀(W:World),Below w9.heap.size w9 W→True from fun _ _=>trivial)
  by_cases hop:o=0
  ·subst hop
   have HFM:=ZH (show ∃f,x=.form f from by
    have:=HEX.out.2.2.2
    cases x with
    | form f=>exact ⟨f,rfl⟩
    | _=>exact absurd this (by simp[opG]))
   obtain ⟨f,hf⟩:=HFM.out
   have hval:=form_value hf (n:=CL) (by have:=HCL.out; omega) HX.out.1 (rs:=rs) (K:=9) (by omega) HB9.out.2.2.2.2.2.2.2.1 HB9.out.2.2.2.2.2.2.2.2 (tv:=.slice ta tn tc) (by
    have h:=HB9.out.2.2.2.2.2.2.1
    rw[hf,raw] at h
    exact h)
   have hs0:s0=⟨(numText f.c).toArray⟩:=by rw[HEX.out.2.2.1,hf,raw]; rfl
   rw[HRA.out.2,←hs0] at hval
   unfold EvPost at hval
   have HSP:=ZH hval
   clear HFM hf hval hs0
   go_wp2_with fail
   refine HSP.out.mono ?_
   rintro e w10 ⟨hb10,hc⟩
   rcases hc with ⟨hu,v2,rfl,hv2⟩ | ⟨hu,rfl⟩
   case inr=>exact absurd (by rw[HRA.out.2]; exact HX.out.2.1) hu
   obtain ⟨p3,g3,f3,q3,p4,g4,f4,q4,rfl⟩:=rt_shape hv2
   have HV10:=ZH hv2
   have HB10:=ZH hb10
   clear hv2 hb10 hu HSP z0 z1 z2 z3 z4
   go_upto_region 11 with fail
   obtain ⟨w11,bu,hw11,hbu,hl11,k11⟩:=new_box w10 #[.bool p3,.slice g3 f3 q3,.bool p4,.slice g4 f4 q4] 43
   rw[←hw11,←hbu]
   have h911:=HB10.out.trans (hl11.mono HB10.out.size)
   have HB11:=ZH h911
   have HV11:=ZH (ZN (HV10.out.below hl11) (HB9.out.2.2.2.2.1.below h911))
   obtain ⟨y0,y1,y2,y3⟩:=cells4 (ZR _ w11) k11
   obtain ⟨u0,u1,u2,u3⟩:=cells4 (ZR _ w11) ((h911.block bv (ZL HB9.out.2.2.2.1)).trans HB9.out.2.2.2.1)
   clear hw11 hbu hl11 k11 h911 HV10 HB10
   go_wp2_with fail
   refine (pequal_any HV11.out.1 HV11.out.2 HSZE.out.1 HSZE.out.1 (by have:=HSZE.out; omega)).mono ?_
   rintro e w12 ⟨he12,hb12⟩
   rw[cmpq_self] at he12
   subst he12
   have H912:=ZH (HB11.out.trans (hb12.mono HB11.out.size))
   clear hb12 y0 y1 y2 y3 u0 u1 u2 u3 HB11 HV11
   obtain ⟨z0,z1,z2,z3,z4⟩:=cells5 H912.out HB9.out.2.2.1
   go_wp2_with fail
   refine (HLAST.out _ H912.out).mono ?_
   rintro e wk ⟨rfl,hbk⟩
   have H9K:=ZH (H912.out.trans (hbk.mono H912.out.size))
   clear hbk z0 z1 z2 z3 z4 H912 HLAST
   have hlu:=last_upto CL x
   have hpos:=lastE_pos x
   have hle:lastE (raw x)≤(CL:Int):=hlu.2 HX.out.2.1
   obtain ⟨ke,hke⟩:∃k:Nat,lastE (raw x)=(k:Int):=⟨(lastE (raw x)).toNat,by omega⟩
   rw[hke] at hle⊢
   by_cases hk0:0<ke
   ·obtain ⟨k1,rfl⟩:∃k1,ke=k1+1:=⟨ke-1,by omega⟩
    have hno:¬UptoG k1 x:=fun h=>by have h9:=(last_upto k1 x).2 h; omega
    have e3:((0:Int)<((k1+1:Nat):Int))=True:=eq_true (by omega)
    have HK1:=ZH (ZN hno (show k1≤CL∧CL≤4 from ⟨by omega,HCL.out.1.2⟩))
    obtain ⟨kz,hkz⟩:∃z:Int,z=((k1+1:Nat):Int):=⟨_,rfl⟩
    have hsub:IntKind.i64.wrap (kz-1)=(k1:Int):=by rw[hkz,IntWalk.i64_in _ (by omega)]; omega
    have hk10:(0:Int)≤(k1:Int):=by omega
    have hk11:(k1:Int)≤(cr:Int):=by omega
    have HKX:=ZH ((H9K.out.block bx (ZL HB9.out.2.2.1)).trans HB9.out.2.2.1)
    have HEK:=ZH (ZN (HB9.out.2.2.2.2.2.1.below H9K.out) (ZN (HB9.out.2.2.2.2.2.2.2.1.below H9K.out) (HB9.out.2.2.2.2.2.2.2.2.below H9K.out)))
    have HWK:=ZH (ZR wk.heap.size wk)
    rw[←hkz] at e3⊢
    clear hlu hpos hle hke hno hkz hk0
    go_upto_region 15 with fail
    refine FlowX.wp_region_mix (fun _ _=>True) (fun _ _ _=>trivial) [0,1,2,3,4,5,6,7,8,9,10] [true,true,true,true,true,true,true,true,true,true,true,false] (fun j9=>[9,10].contains j9) (fun i9 v w'=>match i9 with
     | 0=>v=.agg #[.int .i64 0,.string s0,.slice ta tn tc,.string s1,.slice aa xn ac]
     | 1=>v=.slice ar CL cr
     | 2=>v=.int .i64 kz
     | 3=>v=.int .i64 (k1:Int)
     | 4=>v=.slice ar k1 cr
     | 5=>v=.tuple #[.agg #[.bool false,.slice none 0 0,.bool false,.slice none 0 0],.int .i64 13]
     | 6=>v=.tuple #[.agg #[.bool false,.slice none 0 0,.bool false,.slice none 0 0],.int .i64 13]
     | 7=>v=.agg #[.bool false,.slice none 0 0,.bool false,.slice none 0 0]
     | 8=>v=.int .i64 13
     | 9=>True
     | _=>True) (OneBox wk.heap.size 9) rfl rfl (by kernel_rfl) (by kernel_rfl) (by kernel_rfl) (by kernel_rfl) ?st ?hX ?hX0 ?steps ?fin
    case st=>
     intro i9 v u1 u2 h hb
     match i9 with
     | 0 | 1 | 2 | 3 | 4 | 5 | 6 | 7 | 8 | 9 | 10 | _+11=>exact h
    case hX=>exact fun L xs w L' xs' w' h he hb=>h.below (he 9 rfl) hb
    case hX0=>exact fun xs=>OneBox.init _ _
    case steps=>
     refine Flow.Steps.cons (.inl ⟨rfl,FlowX.StepS.of rfl ?s0⟩) (Flow.Steps.cons (.inl ⟨rfl,FlowX.StepS.of rfl ?s1⟩) (Flow.Steps.cons (.inl ⟨rfl,FlowX.StepS.of rfl ?s2⟩) (Flow.Steps.cons (.inl ⟨rfl,FlowX.StepS.of rfl ?s3⟩) (Flow.Steps.cons (.inl ⟨rfl,FlowX.StepS.of rfl ?s4⟩) (Flow.Steps.cons (.inl ⟨rfl,FlowX.StepS.of rfl ?s5⟩) (Flow.Steps.cons (.inl ⟨rfl,FlowX.StepS.of rfl ?s6⟩) (Flow.Steps.cons (.inl ⟨rfl,FlowX.StepS.of rfl ?s7⟩) (Flow.Steps.cons (.inl ⟨rfl,FlowX.StepS.of rfl ?s8⟩) (Flow.Steps.cons (.inr ⟨rfl,FlowX.StepX.of rfl ?s9⟩) (Flow.Steps.cons (.inr ⟨rfl,FlowX.StepX.of rfl ?s10⟩) zSn))))))))))
     case s0=>
      intro L9 xs w' hb hT hX9 K9 hK9
      clear hT
      simp only[zFp,zAp,zLa,zLb,zLc,Nat.reduceAdd,zNz] at hK9⊢
      have hw:=Flow.hwD HWK.out hb
      have kb:=(hw.block bx (ZL HKX.out)).trans HKX.out
      have y0:=ZI kb 0
      have y1:=ZI kb 1
      have y2:=ZI kb 2
      have y3:=ZI kb 3
      have y4:=ZI kb 4
      clear kb
      simp at y0 y1 y2 y3 y4
      go_simp
      exact hK9 _ _ (ZR _ _) rfl
     case s1 | s2=>
      intro L9 xs w' hb hT hX9 K9 hK9
      clear hT
      simp only[zFp,zAp,zLa,zLb,zLc,Nat.reduceAdd,zNz] at hK9⊢
      have hw:=Flow.hwD HWK.out hb
      go_simp
      exact hK9 _ _ (ZR _ _) rfl
     case s3=>
      intro L9 xs w' hb hT hX9 K9 hK9
      have h2:(xs 2)=.int .i64 kz:=(hT 2 (by kernel_rfl)).2
      clear hT
      simp only[zFp,zAp,zLa,zLb,zLc,Nat.reduceAdd,zNz] at hK9⊢
      have hw:=Flow.hwD HWK.out hb
      (try simp only[h2] at hK9)
      go_simp
      exact hK9 _ _ (ZR _ _) rfl
     case s4=>
      intro L9 xs w' hb hT hX9 K9 hK9
      have h1:(xs 1)=.slice ar CL cr:=(hT 1 (by kernel_rfl)).2
      have h3:(xs 3)=.int .i64 (k1:Int):=(hT 3 (by kernel_rfl)).2
      clear hT
      simp only[zFp,zAp,zLa,zLb,zLc,Nat.reduceAdd,zNz] at hK9⊢
      have hw:=Flow.hwD HWK.out hb
      (try simp only[h1] at hK9)
      (try simp only[h3] at hK9)
      go_simp
      exact hK9 _ _ (ZR _ _) rfl
     case s5=>
      intro L9 xs w' hb hT hX9 K9 hK9
      have h0:(xs 0)=.agg #[.int .i64 0,.string s0,.slice ta tn tc,.string s1,.slice aa xn ac]:=(hT 0 (by kernel_rfl)).2
      have h4:(xs 4)=.slice ar k1 cr:=(hT 4 (by kernel_rfl)).2
      clear hT
      simp only[zFp,zAp,zLa,zLb,zLc,Nat.reduceAdd,zNz] at hK9⊢
      have hw:=Flow.hwD HWK.out hb
      (try simp only[h0] at hK9)
      (try simp only[h4] at hK9)
      have hev:=mEvaluate_any (n:=CL) (by have:=HCL.out; omega) (rs:=rs.take k1) (K:=9) (by omega) 5 x HX.out.2.2.1 HX.out.1 w' _ ar cr (HEK.out.2.1.below hw) ((HEK.out.2.2.below hw).take (by rw[HRA.out.2]; exact HK1.out.2.1)) (HEK.out.1.below hw)
      have hl9:(rs.take k1).length=k1:=by rw[List.length_take,HRA.out.2]; have:=HK1.out; omega
      rw[hl9] at hev
      go_simp
      go_at_call 49
      refine hev.mono ?_
      rintro e w3 ⟨hb3,hc⟩
      rcases hc with ⟨hu,-⟩ | ⟨hu,rfl⟩
      ·exact absurd (by rwa[hl9] at hu) HK1.out.1
      exact hK9 _ _ hb3 rfl
     case s6=>
      intro L9 xs w' hb hT hX9 K9 hK9
      have h5:(xs 5)=.tuple #[.agg #[.bool false,.slice none 0 0,.bool false,.slice none 0 0],.int .i64 13]:=(hT 5 (by kernel_rfl)).2
      clear hT
      simp only[zFp,zAp,zLa,zLb,zLc,Nat.reduceAdd,zNz] at hK9⊢
      have hw:=Flow.hwD HWK.out hb
      (try simp only[h5] at hK9)
      go_simp
      exact hK9 _ _ (ZR _ _) rfl
     case s7 | s8=>
      intro L9 xs w' hb hT hX9 K9 hK9
      have h6:(xs 6)=.tuple #[.agg #[.bool false,.slice none 0 0,.bool false,.slice none 0 0],.int .i64 13]:=(hT 6 (by kernel_rfl)).2
      clear hT
      simp only[zFp,zAp,zLa,zLb,zLc,Nat.reduceAdd,zNz] at hK9⊢
      have hw:=Flow.hwD HWK.out hb
      (try simp only[h6] at hK9)
      go_simp
      exact hK9 _ _ (ZR _ _) rfl
     case s9=>
      intro L9 xs w' hb hT hX9 hL9 K9 hK9
      clear hT
      simp only[zFp,zAp,zLa,zLb,zLc,Nat.reduceAdd,zNz] at hK9⊢
      have hw:=Flow.hwD HWK.out hb
      go_simp
      exact hK9 _ _ (hb.alloc hb.size _) trivial trivial (OneBox.make hb.size)
     case s10=>
      intro L9 xs w' hb hT hX9 hL9 K9 hK9
      have h7:(xs 7)=.agg #[.bool false,.slice none 0 0,.bool false,.slice none 0 0]:=(hT 7 (by kernel_rfl)).2
      have h9:True:=(hT 9 (by kernel_rfl)).2
      have l9:L9 9=true:=(hT 9 (by kernel_rfl)).1
      clear hT
      simp only[zFp,zAp,zLa,zLb,zLc,Nat.reduceAdd,zNz] at hK9⊢
      have hw:=Flow.hwD HWK.out hb
      (try simp only[h7] at hK9)
      obtain ⟨bq,eq9,hgq,kq⟩:=hX9.one l9
      obtain ⟨e90,e91,e92,e93⟩:=cells4 (ZR _ w') kq
      have f0:=ZF kq 0
      have f1':=ZF kq 1
      have f2':=ZF kq 2
      have f3':=ZF kq 3
      (try simp only[eq9] at hK9)
      clear h9
      go_simp
      exact hK9 undef _ ((((hb.setCell (p:=⟨bq,0,none⟩) hgq _).setCell (p:=⟨bq,1,none⟩) hgq _).setCell (p:=⟨bq,2,none⟩) hgq _).setCell (p:=⟨bq,3,none⟩) hgq _) trivial trivial (OneBox.put (by decide) eq9 hgq kq undef)
    case fin=>
     intro xs w' hb hT hX9
     have hw:=Flow.hwD HWK.out hb
     have h7:(xs 7)=.agg #[.bool false,.slice none 0 0,.bool false,.slice none 0 0]:=hT 7 (by rfl)
     have h8:(xs 8)=.int .i64 13:=hT 8 (by rfl)
     have h6:(xs 6)=.tuple #[.agg #[.bool false,.slice none 0 0,.bool false,.slice none 0 0],.int .i64 13]:=hT 6 (by rfl)
     clear hT
     simp only[zFp,zAp,zLa,zLb,zLc,Nat.reduceAdd,zNz,FlowR.restL]
     obtain ⟨bz,e8,hgz,kz9⟩:=hX9.one (by rfl)
     simp only[h8,h7,e8]
     clear e8 h8 h7 h6 hX9
     have HST:=ZH (ZN kz9 (HB9.out.2.1.trans ((H9K.out.trans (hw.mono H9K.out.size)).mono HB9.out.2.1.size)))
     clear kz9 hgz hb hw
     obtain ⟨y0,y1,y2,y3⟩:=cells4 (ZR _ w') HST.out.1
     go_wp2_with fail
     refine (ratSign_any (zero_rt w' 2)).mono ?_
     rintro e wy ⟨rfl,hby⟩
     have HF:=ZH (HST.out.2.trans (hby.mono HST.out.2.size))
     clear hby y0 y1 y2 y3
     go_wp2_with fail
     go_ret
     exact ⟨rfl,HF.out⟩
   ·obtain rfl:ke=0:=by omega
    have HF:=ZH (HB9.out.2.1.trans (H9K.out.mono HB9.out.2.1.size))
    clear hlu hpos hle hke
    go_wp2_with fail
    go_ret
    exact ⟨rfl,HF.out⟩
  ·have e0:(o==0)=false:=by simpa using hop
   have H912:=ZH (ZR w9.heap.size w9)
   clear hop
   go_wp2_with fail
   refine (HLAST.out _ H912.out).mono ?_
   rintro e wk ⟨rfl,hbk⟩
   have H9K:=ZH (H912.out.trans (hbk.mono H912.out.size))
   clear hbk z0 z1 z2 z3 z4 H912 HLAST
   have hlu:=last_upto CL x
   have hpos:=lastE_pos x
   have hle:lastE (raw x)≤(CL:Int):=hlu.2 HX.out.2.1
   obtain ⟨ke,hke⟩:∃k:Nat,lastE (raw x)=(k:Int):=⟨(lastE (raw x)).toNat,by omega⟩
   rw[hke] at hle⊢
   by_cases hk0:0<ke
   ·obtain ⟨k1,rfl⟩:∃k1,ke=k1+1:=⟨ke-1,by omega⟩
    have hno:¬UptoG k1 x:=fun h=>by have h9:=(last_upto k1 x).2 h; omega
    have e3:((0:Int)<((k1+1:Nat):Int))=True:=eq_true (by omega)
    have HK1:=ZH (ZN hno (show k1≤CL∧CL≤4 from ⟨by omega,HCL.out.1.2⟩))
    obtain ⟨kz,hkz⟩:∃z:Int,z=((k1+1:Nat):Int):=⟨_,rfl⟩
    have hsub:IntKind.i64.wrap (kz-1)=(k1:Int):=by rw[hkz,IntWalk.i64_in _ (by omega)]; omega
    have hk10:(0:Int)≤(k1:Int):=by omega
    have hk11:(k1:Int)≤(cr:Int):=by omega
    have HKX:=ZH ((H9K.out.block bx (ZL HB9.out.2.2.1)).trans HB9.out.2.2.1)
    have HEK:=ZH (ZN (HB9.out.2.2.2.2.2.1.below H9K.out) (ZN (HB9.out.2.2.2.2.2.2.2.1.below H9K.out) (HB9.out.2.2.2.2.2.2.2.2.below H9K.out)))
    have HWK:=ZH (ZR wk.heap.size wk)
    rw[←hkz] at e3⊢
    clear hlu hpos hle hke hno hkz hk0
    go_upto_region 15 with fail
    refine FlowX.wp_region_mix (fun _ _=>True) (fun _ _ _=>trivial) [0,1,2,3,4,5,6,7,8,9,10] [true,true,true,true,true,true,true,true,true,true,true,false] (fun j9=>[9,10].contains j9) (fun i9 v w'=>match i9 with
     | 0=>v=.agg #[.int .i64 o,.string s0,.slice ta tn tc,.string s1,.slice aa xn ac]
     | 1=>v=.slice ar CL cr
     | 2=>v=.int .i64 kz
     | 3=>v=.int .i64 (k1:Int)
     | 4=>v=.slice ar k1 cr
     | 5=>v=.tuple #[.agg #[.bool false,.slice none 0 0,.bool false,.slice none 0 0],.int .i64 13]
     | 6=>v=.tuple #[.agg #[.bool false,.slice none 0 0,.bool false,.slice none 0 0],.int .i64 13]
     | 7=>v=.agg #[.bool false,.slice none 0 0,.bool false,.slice none 0 0]
     | 8=>v=.int .i64 13
     | 9=>True
     | _=>True) (OneBox wk.heap.size 9) rfl rfl (by kernel_rfl) (by kernel_rfl) (by kernel_rfl) (by kernel_rfl) ?st ?hX ?hX0 ?steps ?fin
    case st=>
     intro i9 v u1 u2 h hb
     match i9 with
     | 0 | 1 | 2 | 3 | 4 | 5 | 6 | 7 | 8 | 9 | 10 | _+11=>exact h
    case hX=>exact fun L xs w L' xs' w' h he hb=>h.below (he 9 rfl) hb
    case hX0=>exact fun xs=>OneBox.init _ _
    case steps=>
     refine Flow.Steps.cons (.inl ⟨rfl,FlowX.StepS.of rfl ?s0⟩) (Flow.Steps.cons (.inl ⟨rfl,FlowX.StepS.of rfl ?s1⟩) (Flow.Steps.cons (.inl ⟨rfl,FlowX.StepS.of rfl ?s2⟩) (Flow.Steps.cons (.inl ⟨rfl,FlowX.StepS.of rfl ?s3⟩) (Flow.Steps.cons (.inl ⟨rfl,FlowX.StepS.of rfl ?s4⟩) (Flow.Steps.cons (.inl ⟨rfl,FlowX.StepS.of rfl ?s5⟩) (Flow.Steps.cons (.inl ⟨rfl,FlowX.StepS.of rfl ?s6⟩) (Flow.Steps.cons (.inl ⟨rfl,FlowX.StepS.of rfl ?s7⟩) (Flow.Steps.cons (.inl ⟨rfl,FlowX.StepS.of rfl ?s8⟩) (Flow.Steps.cons (.inr ⟨rfl,FlowX.StepX.of rfl ?s9⟩) (Flow.Steps.cons (.inr ⟨rfl,FlowX.StepX.of rfl ?s10⟩) zSn))))))))))
     case s0=>
      intro L9 xs w' hb hT hX9 K9 hK9
      clear hT
      simp only[zFp,zAp,zLa,zLb,zLc,Nat.reduceAdd,zNz] at hK9⊢
      have hw:=Flow.hwD HWK.out hb
      have kb:=(hw.block bx (ZL HKX.out)).trans HKX.out
      have y0:=ZI kb 0
      have y1:=ZI kb 1
      have y2:=ZI kb 2
      have y3:=ZI kb 3
      have y4:=ZI kb 4
      clear kb
      simp at y0 y1 y2 y3 y4
      go_simp
      exact hK9 _ _ (ZR _ _) rfl
     case s1 | s2=>
      intro L9 xs w' hb hT hX9 K9 hK9
      clear hT
      simp only[zFp,zAp,zLa,zLb,zLc,Nat.reduceAdd,zNz] at hK9⊢
      have hw:=Flow.hwD HWK.out hb
      go_simp
      exact hK9 _ _ (ZR _ _) rfl
     case s3=>
      intro L9 xs w' hb hT hX9 K9 hK9
      have h2:(xs 2)=.int .i64 kz:=(hT 2 (by kernel_rfl)).2
      clear hT
      simp only[zFp,zAp,zLa,zLb,zLc,Nat.reduceAdd,zNz] at hK9⊢
      have hw:=Flow.hwD HWK.out hb
      (try simp only[h2] at hK9)
      go_simp
      exact hK9 _ _ (ZR _ _) rfl
     case s4=>
      intro L9 xs w' hb hT hX9 K9 hK9
      have h1:(xs 1)=.slice ar CL cr:=(hT 1 (by kernel_rfl)).2
      have h3:(xs 3)=.int .i64 (k1:Int):=(hT 3 (by kernel_rfl)).2
      clear hT
      simp only[zFp,zAp,zLa,zLb,zLc,Nat.reduceAdd,zNz] at hK9⊢
      have hw:=Flow.hwD HWK.out hb
      (try simp only[h1] at hK9)
      (try simp only[h3] at hK9)
      go_simp
      exact hK9 _ _ (ZR _ _) rfl
     case s5=>
      intro L9 xs w' hb hT hX9 K9 hK9
      have h0:(xs 0)=.agg #[.int .i64 o,.string s0,.slice ta tn tc,.string s1,.slice aa xn ac]:=(hT 0 (by kernel_rfl)).2
      have h4:(xs 4)=.slice ar k1 cr:=(hT 4 (by kernel_rfl)).2
      clear hT
      simp only[zFp,zAp,zLa,zLb,zLc,Nat.reduceAdd,zNz] at hK9⊢
      have hw:=Flow.hwD HWK.out hb
      (try simp only[h0] at hK9)
      (try simp only[h4] at hK9)
      have hev:=mEvaluate_any (n:=CL) (by have:=HCL.out; omega) (rs:=rs.take k1) (K:=9) (by omega) 5 x HX.out.2.2.1 HX.out.1 w' _ ar cr (HEK.out.2.1.below hw) ((HEK.out.2.2.below hw).take (by rw[HRA.out.2]; exact HK1.out.2.1)) (HEK.out.1.below hw)
      have hl9:(rs.take k1).length=k1:=by rw[List.length_take,HRA.out.2]; have:=HK1.out; omega
      rw[hl9] at hev
      go_simp
      go_at_call 49
      refine hev.mono ?_
      rintro e w3 ⟨hb3,hc⟩
      rcases hc with ⟨hu,-⟩ | ⟨hu,rfl⟩
      ·exact absurd (by rwa[hl9] at hu) HK1.out.1
      exact hK9 _ _ hb3 rfl
     case s6=>
      intro L9 xs w' hb hT hX9 K9 hK9
      have h5:(xs 5)=.tuple #[.agg #[.bool false,.slice none 0 0,.bool false,.slice none 0 0],.int .i64 13]:=(hT 5 (by kernel_rfl)).2
      clear hT
      simp only[zFp,zAp,zLa,zLb,zLc,Nat.reduceAdd,zNz] at hK9⊢
      have hw:=Flow.hwD HWK.out hb
      (try simp only[h5] at hK9)
      go_simp
      exact hK9 _ _ (ZR _ _) rfl
     case s7 | s8=>
      intro L9 xs w' hb hT hX9 K9 hK9
      have h6:(xs 6)=.tuple #[.agg #[.bool false,.slice none 0 0,.bool false,.slice none 0 0],.int .i64 13]:=(hT 6 (by kernel_rfl)).2
      clear hT
      simp only[zFp,zAp,zLa,zLb,zLc,Nat.reduceAdd,zNz] at hK9⊢
      have hw:=Flow.hwD HWK.out hb
      (try simp only[h6] at hK9)
      go_simp
      exact hK9 _ _ (ZR _ _) rfl
     case s9=>
      intro L9 xs w' hb hT hX9 hL9 K9 hK9
      clear hT
      simp only[zFp,zAp,zLa,zLb,zLc,Nat.reduceAdd,zNz] at hK9⊢
      have hw:=Flow.hwD HWK.out hb
      go_simp
      exact hK9 _ _ (hb.alloc hb.size _) trivial trivial (OneBox.make hb.size)
     case s10=>
      intro L9 xs w' hb hT hX9 hL9 K9 hK9
      have h7:(xs 7)=.agg #[.bool false,.slice none 0 0,.bool false,.slice none 0 0]:=(hT 7 (by kernel_rfl)).2
      have h9:True:=(hT 9 (by kernel_rfl)).2
      have l9:L9 9=true:=(hT 9 (by kernel_rfl)).1
      clear hT
      simp only[zFp,zAp,zLa,zLb,zLc,Nat.reduceAdd,zNz] at hK9⊢
      have hw:=Flow.hwD HWK.out hb
      (try simp only[h7] at hK9)
      obtain ⟨bq,eq9,hgq,kq⟩:=hX9.one l9
      obtain ⟨e90,e91,e92,e93⟩:=cells4 (ZR _ w') kq
      have f0:=ZF kq 0
      have f1':=ZF kq 1
      have f2':=ZF kq 2
      have f3':=ZF kq 3
      (try simp only[eq9] at hK9)
      clear h9
      go_simp
      exact hK9 undef _ ((((hb.setCell (p:=⟨bq,0,none⟩) hgq _).setCell (p:=⟨bq,1,none⟩) hgq _).setCell (p:=⟨bq,2,none⟩) hgq _).setCell (p:=⟨bq,3,none⟩) hgq _) trivial trivial (OneBox.put (by decide) eq9 hgq kq undef)
    case fin=>
     intro xs w' hb hT hX9
     have hw:=Flow.hwD HWK.out hb
     have h7:(xs 7)=.agg #[.bool false,.slice none 0 0,.bool false,.slice none 0 0]:=hT 7 (by rfl)
     have h8:(xs 8)=.int .i64 13:=hT 8 (by rfl)
     have h6:(xs 6)=.tuple #[.agg #[.bool false,.slice none 0 0,.bool false,.slice none 0 0],.int .i64 13]:=hT 6 (by rfl)
     clear hT
     simp only[zFp,zAp,zLa,zLb,zLc,Nat.reduceAdd,zNz,FlowR.restL]
     obtain ⟨bz,e8,hgz,kz9⟩:=hX9.one (by rfl)
     simp only[h8,h7,e8]
     clear e8 h8 h7 h6 hX9
     have HST:=ZH (ZN kz9 (HB9.out.2.1.trans ((H9K.out.trans (hw.mono H9K.out.size)).mono HB9.out.2.1.size)))
     clear kz9 hgz hb hw
     obtain ⟨y0,y1,y2,y3⟩:=cells4 (ZR _ w') HST.out.1
     go_wp2_with fail
     refine (ratSign_any (zero_rt w' 2)).mono ?_
     rintro e wy ⟨rfl,hby⟩
     have HF:=ZH (HST.out.2.trans (hby.mono HST.out.2.size))
     clear hby y0 y1 y2 y3
     go_wp2_with fail
     go_ret
     exact ⟨rfl,HF.out⟩
   ·obtain rfl:ke=0:=by omega
    have HF:=ZH (HB9.out.2.1.trans (H9K.out.mono HB9.out.2.1.size))
    clear hlu hpos hle hke
    go_wp2_with fail
    go_ret
    exact ⟨rfl,HF.out⟩
end Go.Proofs.YtdgimcmappmjdaaGreatDoor

