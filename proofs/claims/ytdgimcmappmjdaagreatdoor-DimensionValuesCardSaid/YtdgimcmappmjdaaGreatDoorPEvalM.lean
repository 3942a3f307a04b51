/- The law's evaluate. -/
import Derived.Test.YtdgimcmappmjdaaGreatDoorMEvalM
import Derived.Test.YtdgimcmappmjdaaGreatDoorKS
import Derived.Test.YtdgimcmappmjdaaGreatDoorKN
set_option linter.unusedSimpArgs false
set_option linter.unusedVariables false
set_option maxRecDepth 100000
namespace Go.Proofs.YtdgimcmappmjdaaGreatDoor
open List renaming setIfInBounds_toArray → zLa, set_cons_zero → zLb, set_cons_succ → zLc
open FlowR renaming putSel → zFp
open Act renaming put → zAp
open Nat renaming zero_add → zNz
open Flow.Steps renaming cons → zSc, nil → zSn
open FlowR.Step renaming of → zSo
open Go.RowKit Go.Num Go.Flow
open Go.Gx (LF GEx mn mx ab eval evals dep Over)
set_option maxHeartbeats 8000000
set_option linter.unusedVariables false

def PvPost (w:World) (rs:List Rat) (x:GEx) (e:Ending) (w':World):Prop:=Below w.heap.size w w'∧∃v,e=.returned v∧RtIn w' v (eval rs x) (esz x)
theorem fine_texts400 {f:LF} {n:Nat} (h:LiteF f) (hn:f.t.length=n):∀p,p∈formTexts f→p.2.length≤60∧readErr p.2 400=0:=fun p hp=>by
 obtain ⟨h1,r,h2,-,h3⟩:=texts_of hp
 have h4:=(liteF_texts h).2 r h2
 rw[h3]
 exact ⟨h4,read_num_ok (by omega) (by omega)⟩
theorem form_pvalue {w:World} {x:GEx} {f:LF} (hfx:x=.form f) {n:Nat} (hn:n≤900) (hfi:EvFine n x) {rs:List Rat} (hup:UptoG rs.length x) {K:Nat} (hK:2≤K∧K≤12) (hg:Glob w) {ar:Option Addr} {cr:Nat} (hr:RatsAt w ar cr rs K) {tv:Value} (ht:TermsZ w tv (zTerms (formTexts f))) :
  Calls Tryz.prog 102 #[.agg #[.string ⟨(numText f.c).toArray⟩,tv],.slice ar rs.length cr] w (PvPost w rs x):=by
 subst hfx
 have hfo:f.t.length=n:=by have:=hfi.over; rwa[Over] at this
 have hlf:=lite_form hfi.lite
 have hfz:=fine_texts400 hlf hfo
 have hlen:=texts_len f
 have hform:FormAt w (.agg #[.string ⟨(numText f.c).toArray⟩,tv]) (numText f.c) (formTexts f):=⟨tv,rfl,TermsZ.nat ht⟩
 have hat:∀j,j<(formTexts f).length→(formTexts f).getD j (0,[])∈formTexts f:=fun j hj=>by
  rw[List.getD_eq_getElem?_getD,List.getElem?_eq_getElem hj]
  exact List.getElem_mem hj
 have hc:=(liteF_texts hlf).1
 have hc0:readErr (numText f.c) 400=0:=read_num_ok (by omega) (by omega)
 have hsz:=hfi.size
 rw[esz,hfo] at hsz
 have hb:(60+2)+((formTexts f).length+1)*(60+K+3)≤900000:=by
  have:=Nat.mul_le_mul (show (formTexts f).length+1≤901 by omega) (show 60+K+3≤75 by omega)
  omega
 have hu:Upto rs.length f:=by rwa[UptoG] at hup
 have h:=pvalue_any hg hform (by omega) hr hK.1 (S:=60) hc hc0 (by omega) (fun j hj=>⟨(upto_terms.1 hu) _ (hat j hj),hfz _ (hat j hj)⟩) hb
 refine h.mono ?_
 rintro e w' ⟨v,rfl,hv,hbe⟩
 have e9:valueTo (numText f.c) (formTexts f) rs (formTexts f).length=eval rs (.form f):=by
  rw[eval]
  unfold valueTo
  rw[List.take_length,read_num]
  exact value_texts fun i hi=>hu i hi
 rw[e9] at hv
 exact ⟨hbe,v,rfl,hv.more (by
  rw[esz]
  have:=Nat.mul_le_mul (show (formTexts f).length≤f.t.length from hlen) (show 60+K+3≤75 by omega)
  omega)⟩
theorem arg_some {n:Nat} {x:GEx} (h:Over n x) (h0:opG x≠0):0<(argG x).length:=by
 cases x with
 | form f=>exact absurd rfl h0
 | scale q a=>simp[argG]
 | abs a=>simp[argG]
 | add l=>rw[Over] at h; exact List.length_pos_iff.2 h.1
 | min l=>rw[Over] at h; exact List.length_pos_iff.2 h.1
 | max l=>rw[Over] at h; exact List.length_pos_iff.2 h.1
theorem op_more {x:GEx} (h:1<(argG x).length):opG x=1∨opG x=3∨opG x=4:=by
 cases x<;>simp[opG,argG] at h⊢
theorem pevaluate_step {n:Nat} (hn:n≤900) {rs:List Rat} {K:Nat} (hK:2≤K∧K≤12) (x:GEx)
  (ih:∀j,j<(argG x).length→∀(w:World) (v:Value) (ar:Option Addr) (cr:Nat),Glob w→RatsAt w ar cr rs K→ExIn w (raw ((argG x).getD j (.add []))) v→Calls Tryz.prog 50 #[v,.slice ar rs.length cr] w (PvPost w rs ((argG x).getD j (.add []))))
  (hfi:EvFine n x) (hup:UptoG rs.length x) {w:World} {v:Value} {ar:Option Addr} {cr:Nat} (hg:Glob w) (hr:RatsAt w ar cr rs K) (hx:ExIn w (raw x) v):Calls Tryz.prog 50 #[v,.slice ar rs.length cr] w (PvPost w rs x):=by
 obtain ⟨tv,aa,ac,rfl,htz,hax⟩:=hx.out
 rw[raw_args] at hax⊢
 rw[raws_len] at hax⊢
 obtain ⟨ta,tc,rfl,-⟩:=id htz
 obtain ⟨s0,hs0⟩:∃s:ByteArray,s=⟨(raw x).c.toArray⟩:=⟨_,rfl⟩
 obtain ⟨s1,hs1⟩:∃s:ByteArray,s=⟨(raw x).f.toArray⟩:=⟨_,rfl⟩
 obtain ⟨tn,htn⟩:∃x',x'=(raw x).t.length:=⟨_,rfl⟩
 obtain ⟨an,han⟩:∃x',x'=(argG x).length:=⟨_,rfl⟩
 obtain ⟨nr,hnr⟩:∃x',x'=rs.length:=⟨_,rfl⟩
 obtain ⟨o,ho⟩:∃x',x'=(raw x).op:=⟨_,rfl⟩
 rw[←hs0,←hs1,←htn,←han,←ho,←hnr]
 unfold PvPost
 rw[←htn] at htz
 rw[←han] at hax
 have hoG:o=opG x:=by rw[ho,raw_op]
 obtain ⟨wa,bx,br,hwa,hbx,hbr,hal,k0,k1⟩:=new_two w #[.int .i64 o,.string s0,.slice ta tn tc,.string s1,.slice aa an ac] #[.bool false,.slice none 0 0,.bool false,.slice none 0 0] 63 43
 have hcap:an≤ac∧ac≤9223372036854775807:=by
  obtain ⟨_,_,e,h1,h2,-⟩:=hax
  simp only[Value.slice.injEq] at e
  obtain ⟨-,-,rfl⟩:=e
  rw[raws_len,←han] at h1
  exact ⟨h1,h2⟩
 have HG:=ZH hg
 have HD:=ZH hr
 have HFI:=ZH (ZN hfi hup)
 have HTZ:=ZH htz
 have HAX:=ZH hax
 have HIH:=ZH ih
 have HAL:=ZH hal
 have HK:=ZH (ZN k0 k1)
 have HNE:=ZH (show bx≠br∧w.heap.size≤br by omega)
 have HN:=ZH (ZN han (ZN hnr (ZN hs0 (ZN hs1 (ZN htn hoG)))))
 have HW:=ZH (ZN hwa (ZN hbx hbr))
 have HKK:=ZH hK
 obtain ⟨x0,x1,x2,x3,x4⟩:=cells5 (ZR _ wa) k0
 clear hwa hbx hbr hal hg hr hfi htz hax ih hs0 hs1 htn hx ho han hnr hoG k0 k1 hK hup
 by_cases hop:o=0
 ·-- a form
  subst hop
  have HFM:=ZH (show ∃f,x=.form f from by
   have:=HN.out.2.2.2.2.2
   cases x with
   | form f=>exact ⟨f,rfl⟩
   | _=>exact absurd this (by simp[opG]))
  obtain ⟨f,hf⟩:=HFM.out
  have hval:=form_pvalue hf hn HFI.out.1 HFI.out.2 HKK.out (HG.out.below HAL.out) (HD.out.below HAL.out) (tv:=.slice ta tn tc) (by
   have h:=HTZ.out.below HAL.out
   rw[hf,raw] at h
   exact h)
  have hs0:s0=⟨(numText f.c).toArray⟩:=by rw[HN.out.2.2.1,hf,raw]; rfl
  rw[←HN.out.2.1,←hs0] at hval
  unfold PvPost at hval
  have HSP:=ZH hval
  clear HFM hf hval hs0
  go_enter Tryz.func50,Tryz.ntmps50
  go_upto_region 1 with fail
  rw[←HW.out.1,←HW.out.2.2,←HW.out.2.1]
  clear HW
  go_wp2_with fail
  refine HSP.out.mono ?_
  rintro e w1 ⟨hb1,v1,rfl,hv⟩
  obtain ⟨p1,a1,c1,l1,p2,a2,c2,l2,rfl⟩:=rt_shape hv
  have hbw:=HAL.out.trans (hb1.mono HAL.out.size)
  have hr9:=(hb1.block br (ZL HK.out.2)).trans HK.out.2
  have hst:=rat_put hr9 HNE.out.2 hbw hv
  have f0:=ZF hr9 0
  have f1':=ZF hr9 1
  have f2':=ZF hr9 2
  have f3':=ZF hr9 3
  obtain ⟨y0,y1,y2,y3⟩:=cells4 (ZR _ w1) hr9
  have HF:=ZH hst
  clear hst hr9 hb1 hbw hv HSP
  go_wp2_with fail
  exact bodyPost_ret (v:=.agg #[.bool p1,.slice a1 c1 l1,.bool p2,.slice a2 c2 l2]) (by simp[results,Tryz.results50,go_sem,y0,y1,y2,y3]) rfl ⟨HF.out.below,_,rfl,HF.out.rt⟩
 ·have e0:(o==0)=false:=by simpa using hop
  have HOP:=ZH (ZN hop (show opG x≠0 by rw[←HN.out.2.2.2.2.2]; exact hop))
  have han:0<an:=by rw[HN.out.1]; exact arg_some HFI.out.1.over HOP.out.2
  clear hop
  have hn1:an≤100000:=by
   have h1:=HFI.out.1.size
   have h2:=evz_le (x:=x) HOP.out.2
   have h4:=eszs_len (argG x)
   unfold evz at h2
   have:=HN.out.1
   omega
  obtain ⟨_,_,he,-,-,hcx⟩:=HAX.out
  simp only[Value.slice.injEq] at he
  obtain ⟨rfl,-,rfl⟩:=he
  obtain ⟨g,og,rfl,-,hcc⟩:=hcx (by rw[raws_len,←HN.out.1]; omega)
  have HCC:=ZH hcc
  have hjl:0<(argG x).length:=by rw[←HN.out.1]; omega
  obtain ⟨utv,ua,uc,c0,c1',c2',c3,c4,htk,hak⟩:=hcc.at (j:=0) (by rw[raws_len]; exact hjl)
  rw[raws_at hjl] at c0 c1' c3 c4 htk hak
  have hihk:=HIH.out 0 hjl
  rw[show og+0*5=og by omega] at c0 c1' c2' c3 c4
  have hev1:=evTo_one o rs (l:=argG x) hjl
  obtain ⟨y,hy⟩:∃y,y=(argG x).getD 0 (.add []):=⟨_,rfl⟩
  rw[←hy] at c0 c1' c3 c4 htk hak hihk hev1
  obtain ⟨uta,utc,rfl,-⟩:=id htk
  obtain ⟨uo,huo⟩:∃q,q=(raw y).op:=⟨_,rfl⟩
  obtain ⟨us0,hus0⟩:∃s:ByteArray,s=⟨(raw y).c.toArray⟩:=⟨_,rfl⟩
  obtain ⟨us1,hus1⟩:∃s:ByteArray,s=⟨(raw y).f.toArray⟩:=⟨_,rfl⟩
  obtain ⟨utn,hutn⟩:∃q,q=(raw y).t.length:=⟨_,rfl⟩
  obtain ⟨uan,huan⟩:∃q,q=(raw y).a.length:=⟨_,rfl⟩
  have hyx:=ExIn.of htk hak
  rw[←huo,←hus0,←hus1,←hutn,←huan] at hyx
  rw[←huo] at c0
  rw[←hus0] at c1'
  rw[←hutn] at c2'
  rw[←hus1] at c3
  rw[←huan] at c4
  have z0:=ZJ HAL.out c0
  have z1:=ZJ HAL.out c1'
  have z2:=ZJ HAL.out c2'
  have z3:=ZJ HAL.out c3
  have z4:=ZJ HAL.out c4
  have hcall:=(show ∀(w:World) (v:Value) (ar:Option Addr) (cr:Nat),Glob w→RatsAt w ar cr rs K→ExIn w (raw y) v→Calls Tryz.prog 50 #[v,.slice ar nr cr] w (PvPost w rs y) from by rw[HN.out.2.1]; exact hihk) _ _ _ _ (HG.out.below HAL.out) (HD.out.below HAL.out) (hyx.below HAL.out)
  unfold PvPost at hcall
  have HCL:=ZH hcall
  have HU:=ZH (ZN hev1 (show esz y≤2+eszs ((argG x).take 1) by
   have h1:eszs ((argG x).take 1)=eszs ((argG x).take 0)+(esz ((argG x).getD 0 (.add []))+1):=eszs_take (k:=0) hjl
   rw[←hy] at h1
   omega))
  have h00:(0:Int)<(an:Int):=by omega
  clear hcx hcc c0 c1' c2' c3 c4 htk hak hihk hy huo hus0 hus1 hutn huan hyx hjl hev1 hcall
  go_enter Tryz.func50,Tryz.ntmps50
  go_upto_region 1 with fail
  rw[←HW.out.1,←HW.out.2.2,←HW.out.2.1]
  clear HW
  go_wp2_with fail
  refine HCL.out.mono ?_
  rintro e w1 ⟨hb1,v1,rfl,hv⟩
  obtain ⟨p1,a1,c1,l1,p2,a2,c2,l2,rfl⟩:=rt_shape hv
  have HV1:=ZH hv
  have HB1:=ZH hb1
  clear hv hb1 x0 x1 x2 x3 x4 z0 z1 z2 z3 z4 HCL
  go_upto_region 4 with fail
  obtain ⟨wb,bo,hwb,hbo,hlb,kb⟩:=new_box w1 #[.bool p1,.slice a1 c1 l1,.bool p2,.slice a2 c2 l2] 43
  rw[←hwb,←hbo]
  have hb12:=HB1.out.trans (hlb.mono HB1.out.size)
  have HB0:=ZH (HAL.out.trans (hb12.mono HAL.out.size))
  have HK0:=ZH (ZN ((hb12.block bx (ZL HK.out.1)).trans HK.out.1) (ZN ((hb12.block br (ZL HK.out.2)).trans HK.out.2) kb))
  have HV0:=ZH (HV1.out.below hlb)
  have HNO:=ZH (show bx≠bo∧br≠bo∧w.heap.size≤bo from by
   have h1:=ZL HK.out.1
   have h2:=ZL HK.out.2
   have h3:=HAL.out.size
   have h4:=HB1.out.size
   omega)
  clear hwb hbo hlb kb hb12 HK HAL HV1 HB1
  go_wp2_with fail
  go_loopg [6] (an-1) (fun gk i wr=>∃k:Nat,k+gk=an∧1≤k∧i=.int .i64 k∧Hid (∃s1 a1 c1 l1 s2 a2 c2 l2,wr.heap[bo]?=some (.cells #[.bool s1,.slice a1 c1 l1,.bool s2,.slice a2 c2 l2] 43 (0,0))∧RtIn wr (.agg #[.bool s1,.slice a1 c1 l1,.bool s2,.slice a2 c2 l2]) (evTo o rs (argG x) k) (2+eszs ((argG x).take k)))∧Hid (wr.heap[bx]?=some (.cells #[.int .i64 o,.string s0,.slice ta tn tc,.string s1,.slice (some ⟨g,og,none⟩) an ac] 63 (0,0))∧wr.heap[br]?=some (.cells #[.bool false,.slice none 0 0,.bool false,.slice none 0 0] 43 (0,0)))∧Hid (Below w.heap.size w wr))
  case atStart=>exact ⟨1,by omega,Nat.le_refl _,rfl,ZH ⟨_,_,_,_,_,_,_,_,HK0.out.2.2,by rw[HU.out.1]; exact HV0.out.more HU.out.2⟩,ZH ⟨HK0.out.1,HK0.out.2.1⟩,HB0⟩
  case round=>
   obtain ⟨k,hk,hk1',rfl,hacc,hkx,hbw⟩:=hrel
   obtain ⟨p1,a1,c1,l1,p2,a2,c2,l2,hko,hro⟩:=hacc.out
   obtain ⟨x0,x1,x2,x3,x4⟩:=cells5 (ZR _ wr) hkx.out.1
   by_cases hlt:k<an
   ·have e1:((k:Int)<(an:Int))=True:=eq_true (by omega)
    have hop3:=op_more (x:=x) (by rw[←HN.out.1]; omega)
    rw[←HN.out.2.2.2.2.2] at hop3
    have hcc:=HCC.out
    have hjl:k<(argG x).length:=by rw[←HN.out.1]; omega
    obtain ⟨utv,ua,uc,c0,c1',c2',c3,c4,htk,hak⟩:=hcc.at (j:=k) (by rw[raws_len]; exact hjl)
    rw[raws_at hjl] at c0 c1' c3 c4 htk hak
    have hihk:=HIH.out k hjl
    have hcks:=evTo_succ o rs hjl (show 0<k by omega)
    have hszk:=eszs_take hjl
    obtain ⟨y,hy⟩:∃y,y=(argG x).getD k (.add []):=⟨_,rfl⟩
    rw[←hy] at c0 c1' c3 c4 htk hak hihk hcks hszk
    obtain ⟨uta,utc,rfl,-⟩:=id htk
    obtain ⟨uo,huo⟩:∃q,q=(raw y).op:=⟨_,rfl⟩
    obtain ⟨us0,hus0⟩:∃s:ByteArray,s=⟨(raw y).c.toArray⟩:=⟨_,rfl⟩
    obtain ⟨us1,hus1⟩:∃s:ByteArray,s=⟨(raw y).f.toArray⟩:=⟨_,rfl⟩
    obtain ⟨utn,hutn⟩:∃q,q=(raw y).t.length:=⟨_,rfl⟩
    obtain ⟨uan,huan⟩:∃q,q=(raw y).a.length:=⟨_,rfl⟩
    have hyx:=ExIn.of htk hak
    rw[←huo,←hus0,←hus1,←hutn,←huan] at hyx
    rw[←huo] at c0
    rw[←hus0] at c1'
    rw[←hutn] at c2'
    rw[←hus1] at c3
    rw[←huan] at c4
    have z0:=ZJ hbw.out c0
    have z1:=ZJ hbw.out c1'
    have z2:=ZJ hbw.out c2'
    have z3:=ZJ hbw.out c3
    have z4:=ZJ hbw.out c4
    have hcall:=(show ∀(w:World) (v:Value) (ar:Option Addr) (cr:Nat),Glob w→RatsAt w ar cr rs K→ExIn w (raw y) v→Calls Tryz.prog 50 #[v,.slice ar nr cr] w (PvPost w rs y) from by rw[HN.out.2.1]; exact hihk) _ _ _ _ (HG.out.below hbw.out) (HD.out.below hbw.out) (hyx.below hbw.out)
    unfold PvPost at hcall
    have HCL:=ZH hcall
    have hck:evTo o rs (argG x) (k+1)=fop o (evTo o rs (argG x) k) (eval rs y):=hcks
    clear hcks
    have hk0:(0:Int)≤(k:Int):=by omega
    have hk1:(k:Int)<(an:Int):=by omega
    have HLT:=ZH (ZN hlt (ZN hk1' hck))
    have HKX:=ZH hkx.out
    have HKO:=ZH hko
    have HRO:=ZH hro
    have HBW:=ZH hbw.out
    obtain ⟨va,hva⟩:∃q,q=evTo o rs (argG x) k:=⟨_,rfl⟩
    rw[←hva] at HRO HLT
    obtain ⟨K0,hK0⟩:∃q,q=2+eszs ((argG x).take k):=⟨_,rfl⟩
    rw[←hK0] at HRO
    have HBD:=ZH (show K0+esz y+1≤100000∧2+eszs ((argG x).take (k+1))=K0+esz y+1∧2≤K0∧2≤esz y by
     have h1:=HFI.out.1.size
     have h2:=evz_le (x:=x) HOP.out.2
     have h3:=eszs_le (l:=argG x) (k:=k+1)
     have h4:=esz_two y
     unfold evz at h2
     omega)
    clear hcc c0 c1' c2' c3 c4 htk hak hihk hy huo hus0 hus1 hutn huan hyx hjl hcall hck hszk hkx hko hro hbw hacc hva hK0 hlt hk1'
    go_wp2_with fail
    refine HCL.out.mono ?_
    rintro e w5 ⟨hb5,v1,rfl,hv⟩
    obtain ⟨q1,g1,i1,j1,q2,g2,i2,j2,rfl⟩:=rt_shape hv
    have HV5:=ZH hv
    have HB5:=ZH hb5
    clear hv hb5 x0 x1 x2 x3 x4 z0 z1 z2 z3 z4 HCL
    go_upto_region 8 with fail
    obtain ⟨w6,bv,hw6,hbv,hl6,kv⟩:=new_box w5 #[.bool q1,.slice g1 i1 j1,.bool q2,.slice g2 i2 j2] 43
    rw[←hw6,←hbv]
    have h46:=HB5.out.trans (hl6.mono HB5.out.size)
    have HB6:=ZH (HBW.out.trans (h46.mono HBW.out.size))
    have HKX6:=ZH (ZN ((h46.block bx (ZL HKX.out.1)).trans HKX.out.1) ((h46.block br (ZL HKX.out.2)).trans HKX.out.2))
    have HKO6:=ZH ((h46.block bo (ZL HKO.out)).trans HKO.out)
    have HRO6:=ZH (HRO.out.below h46)
    have HV6:=ZH (ZN kv (HV5.out.below hl6))
    clear hw6 hbv hl6 kv h46 HKX HKO HRO HV5 HB5 HBW
    obtain ⟨x0,x1,x2,x3,x4⟩:=cells5 (ZR _ w6) HKX6.out.1
    obtain ⟨y0,y1,y2,y3⟩:=cells4 (ZR _ w6) HKO6.out
    obtain ⟨z0,z1,z2,z3⟩:=cells4 (ZR _ w6) HV6.out.1
    rcases hop3 with h3 | h3 | h3
    ·subst h3
     go_wp2_with fail
     refine (ratAdd_any HRO6.out HV6.out.2 HBD.out.2.2.1 HBD.out.2.2.2 (by have:=HBD.out; omega)).mono ?_
     rintro e w7 ⟨v7,rfl,hr7,hb7⟩
     obtain ⟨u1,g3,i3,j3,u2,g4,i4,j4,rfl⟩:=rt_shape hr7
     have HQ:=ZH (show evTo 1 rs (argG x) (k+1)=va+eval rs y from HLT.out.2.2)
     have hro7:=hr7
     have hko7:=(hb7.block bo (ZL HKO6.out)).trans HKO6.out
     have hx7:=(hb7.block bx (ZL HKX6.out.1)).trans HKX6.out.1
     have hr7':=(hb7.block br (ZL HKX6.out.2)).trans HKX6.out.2
     obtain ⟨o0,o1,o2,o3⟩:=cells4 (ZR _ w7) hko7
     have hst:=rat_put hko7 HNO.out.2.2 (HB6.out.trans (hb7.mono HB6.out.size)) hro7
     have f0:=ZF hko7 0
     have f1':=ZF hko7 1
     have f2':=ZF hko7 2
     have f3':=ZF hko7 3
     have hkx8:=(hst.but.block bx HNO.out.1 (ZL hx7)).trans hx7
     have hkr8:=(hst.but.block br HNO.out.2.1 (ZL hr7')).trans hr7'
     have HF:=ZH (ZN hst (ZN hkx8 hkr8))
     clear hst hkx8 hkr8 hx7 hr7' hko7 hro7 hb7 x0 x1 x2 x3 x4 y0 y1 y2 y3 z0 z1 z2 z3 hr7
     go_wp2_with fail
     go_roundg (an-(k+1))
     case measure=>have:=HLT.out.1; omega
     case rel=>exact ⟨k+1,by have:=HLT.out.1; omega,by omega,by congr 1,ZH ⟨_,_,_,_,_,_,_,_,HF.out.1.block,by rw[HQ.out,HBD.out.2.1]; exact HF.out.1.rt⟩,ZH HF.out.2,ZH HF.out.1.below⟩
    ·subst h3
     go_wp2_with fail
     refine (ratCompare_any HV6.out.2 HRO6.out HBD.out.2.2.2 HBD.out.2.2.1 (by have:=HBD.out; omega)).mono ?_
     rintro e w7 ⟨rfl,hb7⟩
     clear x0 x1 x2 x3 x4 y0 y1 y2 y3 z0 z1 z2 z3
     obtain ⟨x0,x1,x2,x3,x4⟩:=cells5 hb7 HKX6.out.1
     obtain ⟨z0,z1,z2,z3⟩:=cells4 hb7 HV6.out.1
     by_cases hq:eval rs y<va
     ·have e2:(cmpQ (eval rs y) va<0)=True:=eq_true (cmpQ_lt.2 hq)
      have HQ:=ZH (show evTo 3 rs (argG x) (k+1)=eval rs y from by
       rw[HLT.out.2.2]
       show mn va (eval rs y)=_
       unfold mn
       rw[if_pos hq])
      have hro7:=(HV6.out.2.below hb7).more (show esz y≤K0+esz y+1 by omega)
      clear hq
      have hko7:=(hb7.block bo (ZL HKO6.out)).trans HKO6.out
      have hx7:=(hb7.block bx (ZL HKX6.out.1)).trans HKX6.out.1
      have hr7':=(hb7.block br (ZL HKX6.out.2)).trans HKX6.out.2
      obtain ⟨o0,o1,o2,o3⟩:=cells4 (ZR _ w7) hko7
      have hst:=rat_put hko7 HNO.out.2.2 (HB6.out.trans (hb7.mono HB6.out.size)) hro7
      have f0:=ZF hko7 0
      have f1':=ZF hko7 1
      have f2':=ZF hko7 2
      have f3':=ZF hko7 3
      have hkx8:=(hst.but.block bx HNO.out.1 (ZL hx7)).trans hx7
      have hkr8:=(hst.but.block br HNO.out.2.1 (ZL hr7')).trans hr7'
      have HF:=ZH (ZN hst (ZN hkx8 hkr8))
      clear hst hkx8 hkr8 hx7 hr7' hko7 hro7 hb7 x0 x1 x2 x3 x4
      go_wp2_with fail
      go_roundg (an-(k+1))
      case measure=>have:=HLT.out.1; omega
      case rel=>exact ⟨k+1,by have:=HLT.out.1; omega,by omega,by congr 1,ZH ⟨_,_,_,_,_,_,_,_,HF.out.1.block,by rw[HQ.out,HBD.out.2.1]; exact HF.out.1.rt⟩,ZH HF.out.2,ZH HF.out.1.below⟩
     ·have e2:(cmpQ (eval rs y) va<0)=False:=eq_false (fun h=>hq (cmpQ_lt.1 h))
      have HQ:=ZH (show evTo 3 rs (argG x) (k+1)=va from by
       rw[HLT.out.2.2]
       show mn va (eval rs y)=_
       unfold mn
       rw[if_neg hq])
      clear hq
      have HF:=ZH (ZN ((hb7.block bo (ZL HKO6.out)).trans HKO6.out) (ZN ((HRO6.out.below hb7).more (show K0≤K0+esz y+1 by omega)) (ZN ((hb7.block bx (ZL HKX6.out.1)).trans HKX6.out.1) (ZN ((hb7.block br (ZL HKX6.out.2)).trans HKX6.out.2) (HB6.out.trans (hb7.mono HB6.out.size))))))
      clear hb7
      go_wp2_with fail
      go_roundg (an-(k+1))
      case measure=>have:=HLT.out.1; omega
      case rel=>exact ⟨k+1,by have:=HLT.out.1; omega,by omega,by congr 1,ZH ⟨_,_,_,_,_,_,_,_,HF.out.1,by rw[HQ.out,HBD.out.2.1]; exact HF.out.2.1⟩,ZH ⟨HF.out.2.2.1,HF.out.2.2.2.1⟩,ZH HF.out.2.2.2.2⟩
    ·subst h3
     go_wp2_with fail
     refine (ratCompare_any HV6.out.2 HRO6.out HBD.out.2.2.2 HBD.out.2.2.1 (by have:=HBD.out; omega)).mono ?_
     rintro e w7 ⟨rfl,hb7⟩
     clear x0 x1 x2 x3 x4 y0 y1 y2 y3 z0 z1 z2 z3
     obtain ⟨x0,x1,x2,x3,x4⟩:=cells5 hb7 HKX6.out.1
     obtain ⟨z0,z1,z2,z3⟩:=cells4 hb7 HV6.out.1
     by_cases hq:va<eval rs y
     ·have e2:(0<cmpQ (eval rs y) va)=True:=eq_true (cmpQ_gt.2 hq)
      have HQ:=ZH (show evTo 4 rs (argG x) (k+1)=eval rs y from by
       rw[HLT.out.2.2]
       show mx va (eval rs y)=_
       unfold mx
       rw[if_pos hq])
      have hro7:=(HV6.out.2.below hb7).more (show esz y≤K0+esz y+1 by omega)
      clear hq
      have hko7:=(hb7.block bo (ZL HKO6.out)).trans HKO6.out
      have hx7:=(hb7.block bx (ZL HKX6.out.1)).trans HKX6.out.1
      have hr7':=(hb7.block br (ZL HKX6.out.2)).trans HKX6.out.2
      obtain ⟨o0,o1,o2,o3⟩:=cells4 (ZR _ w7) hko7
      have hst:=rat_put hko7 HNO.out.2.2 (HB6.out.trans (hb7.mono HB6.out.size)) hro7
      have f0:=ZF hko7 0
      have f1':=ZF hko7 1
      have f2':=ZF hko7 2
      have f3':=ZF hko7 3
      have hkx8:=(hst.but.block bx HNO.out.1 (ZL hx7)).trans hx7
      have hkr8:=(hst.but.block br HNO.out.2.1 (ZL hr7')).trans hr7'
      have HF:=ZH (ZN hst (ZN hkx8 hkr8))
      clear hst hkx8 hkr8 hx7 hr7' hko7 hro7 hb7 x0 x1 x2 x3 x4
      go_wp2_with fail
      go_roundg (an-(k+1))
      case measure=>have:=HLT.out.1; omega
      case rel=>exact ⟨k+1,by have:=HLT.out.1; omega,by omega,by congr 1,ZH ⟨_,_,_,_,_,_,_,_,HF.out.1.block,by rw[HQ.out,HBD.out.2.1]; exact HF.out.1.rt⟩,ZH HF.out.2,ZH HF.out.1.below⟩
     ·have e2:(0<cmpQ (eval rs y) va)=False:=eq_false (fun h=>hq (cmpQ_gt.1 h))
      have HQ:=ZH (show evTo 4 rs (argG x) (k+1)=va from by
       rw[HLT.out.2.2]
       show mx va (eval rs y)=_
       unfold mx
       rw[if_neg hq])
      clear hq
      have HF:=ZH (ZN ((hb7.block bo (ZL HKO6.out)).trans HKO6.out) (ZN ((HRO6.out.below hb7).more (show K0≤K0+esz y+1 by omega)) (ZN ((hb7.block bx (ZL HKX6.out.1)).trans HKX6.out.1) (ZN ((hb7.block br (ZL HKX6.out.2)).trans HKX6.out.2) (HB6.out.trans (hb7.mono HB6.out.size))))))
      clear hb7
      go_wp2_with fail
      go_roundg (an-(k+1))
      case measure=>have:=HLT.out.1; omega
      case rel=>exact ⟨k+1,by have:=HLT.out.1; omega,by omega,by congr 1,ZH ⟨_,_,_,_,_,_,_,_,HF.out.1,by rw[HQ.out,HBD.out.2.1]; exact HF.out.2.1⟩,ZH ⟨HF.out.2.2.1,HF.out.2.2.2.1⟩,ZH HF.out.2.2.2.2⟩
   ·have e1:((k:Int)<(an:Int))=False:=eq_false (by omega)
    obtain rfl:k=an:=by omega
    have HKX9:=ZH hkx.out
    have HKO9:=ZH hko
    rw[HN.out.1,List.take_length] at hro
    have HRO9:=ZH hro
    have HB9:=ZH hbw.out
    have HW9:=ZH (ZR wr.heap.size wr)
    clear hacc hkx hko hro hbw
    by_cases h2:o=2
    ·subst h2
     have HFM:=ZH (show ∃q a,x=.scale q a from by
      have:=HN.out.2.2.2.2.2
      cases x with
      | scale q a=>exact ⟨q,a,rfl⟩
      | _=>exact absurd this (by simp[opG]))
     obtain ⟨q,a,rfl⟩:=HFM.out
     clear HFM
     have hqt:=factor_text HFI.out.1
     have hs1:s1.data.toList=numText q:=by rw[HN.out.2.2.2.1,raw]; rfl
     have hrd:=fun (W:World) (hW:Below w.heap.size w W)=>prat_any s1 (w:=W) (by
      have h1:s1.size=(numText q).length:=by rw[HN.out.2.2.2.1,raw]; simp[ByteArray.size,Ex.f]
      omega) (HG.out.below hW) (by rw[hs1]; exact read_num_ok (by omega) (by omega))
     rw[hs1,read_num] at hrd
     have HRD:=ZH hrd
     have HQ:=ZH hqt
     have hcb:evTo 2 rs (argG (.scale q a)) (argG (.scale q a)).length=eval rs a:=evTo_one 2 rs (l:=[a]) (by simp)
     rw[hcb,show 2+eszs (argG (.scale q a))=esz a+3 by simp[argG,eszs]; omega] at HRO9
     have HBA:=ZH (show esz a≤100000∧esz (.scale q a)=62+(esz a+3) by
      have:=HFI.out.1.size
      rw[esz] at this⊢
      omega)
     clear hqt hs1 hrd hcb
     go_upto_region 15 with fail
     refine FlowR.wp_region_sel (fun a b=>Below a.heap.size a b) (fun a=>ZR _ a) (fun _ _ _ h k=>h.trans (k.mono h.size)) [0,1,2,3,4] [false,false,false,false,false,false] [true,true,true,true,true,false] (fun i9 v w'=>match i9 with
      | 0=>v=.pointer (some ⟨bx,3,none⟩)
      | 1=>v=.string s1
      | 2=>RtIn w' v q 62
      | 3=>v=.agg #[.bool p1,.slice a1 c1 l1,.bool p2,.slice a2 c2 l2]
      | _=>RtIn w' v (q*eval rs a) (62+(esz a+3))) rfl rfl (by kernel_rfl) (by kernel_rfl) (by kernel_rfl) (by kernel_rfl) ?st ?steps ?fin
     case st=>
      intro i9 v u1 u2 h hb
      match i9 with
      | 0 | 1 | 3=>exact h
      | 2=>exact (show RtIn u1 v q 62 from h).below hb
      | 4 | _+5=>exact (show RtIn u1 v (q*eval rs a) (62+(esz a+3)) from h).below hb
     case steps=>
      refine zSc (zSo rfl ?s0) (zSc (zSo rfl ?s1) (zSc (zSo rfl ?s2) (zSc (zSo rfl ?s3) (zSc (zSo rfl ?s4) zSn))))
      case s0=>
       intro xs w' hb hT K9 hK9
       clear hT
       simp only[zFp,zAp,zLa,zLb,zLc,Nat.reduceAdd,zNz] at hK9⊢
       have hw:=Flow.hwD HW9.out hb
       go_simp
       exact hK9 _ _ (ZR _ _) rfl
      case s1=>
       intro xs w' hb hT K9 hK9
       have h0:(xs 0)=.pointer (some ⟨bx,3,none⟩):=hT 0 (by kernel_rfl)
       clear hT
       simp only[zFp,zAp,zLa,zLb,zLc,Nat.reduceAdd,zNz] at hK9⊢
       have hw:=Flow.hwD HW9.out hb
       have kb:=(hw.block bx (ZL HKX9.out.1)).trans HKX9.out.1
       have y0:=ZI kb 3
       clear kb
       simp at y0
       (try simp only[h0] at hK9)
       go_simp
       exact hK9 _ _ (ZR _ _) rfl
      case s2=>
       intro xs w' hb hT K9 hK9
       have h1:(xs 1)=.string s1:=hT 1 (by kernel_rfl)
       clear hT
       simp only[zFp,zAp,zLa,zLb,zLc,Nat.reduceAdd,zNz] at hK9⊢
       have hw:=Flow.hwD HW9.out hb
       (try simp only[h1] at hK9)
       go_simp
       go_at_call 43
       refine (HRD.out w' (HB9.out.trans (hw.mono HB9.out.size))).mono ?_
       rintro e w3 ⟨v3,rfl,hi3,hb3⟩
       exact hK9 _ _ hb3 (hi3.more (by have:=HQ.out; omega))
      case s3=>
       intro xs w' hb hT K9 hK9
       clear hT
       simp only[zFp,zAp,zLa,zLb,zLc,Nat.reduceAdd,zNz] at hK9⊢
       have hw:=Flow.hwD HW9.out hb
       have kb:=(hw.block bo (ZL HKO9.out)).trans HKO9.out
       have y0:=ZI kb 0
       have y1:=ZI kb 1
       have y2:=ZI kb 2
       have y3:=ZI kb 3
       clear kb
       simp at y0 y1 y2 y3
       go_simp
       exact hK9 _ _ (ZR _ _) rfl
      case s4=>
       intro xs w' hb hT K9 hK9
       have h2:RtIn w' (xs 2) q 62:=hT 2 (by kernel_rfl)
       have h3:(xs 3)=.agg #[.bool p1,.slice a1 c1 l1,.bool p2,.slice a2 c2 l2]:=hT 3 (by kernel_rfl)
       clear hT
       simp only[zFp,zAp,zLa,zLb,zLc,Nat.reduceAdd,zNz] at hK9⊢
       have hw:=Flow.hwD HW9.out hb
       (try simp only[h3] at hK9)
       go_simp
       go_at_call 74
       refine (ratMul_any h2 (HRO9.out.below hw) (by omega) (by omega) (by have:=HBA.out; omega)).mono ?_
       rintro e w3 ⟨v3,rfl,hi3,hb3⟩
       exact hK9 _ _ hb3 hi3
     case fin=>
      intro xs w' hb hT
      have hw:=Flow.hwD HW9.out hb
      have h4:RtIn w' (xs 4) (q*eval rs a) (62+(esz a+3)):=hT 4 (by rfl)
      clear hT
      simp only[zFp,zAp,zLa,zLb,zLc,Nat.reduceAdd,zNz,FlowR.restL,FlowR.orM,Bool.false_or]
      obtain ⟨u1,i1,j1,o1,u2,i2,j2,o2,e5⟩:=rt_shape h4
      rw[e5] at h4
      simp only[e5]
      clear e5
      have hbw:=HB9.out.trans (hw.mono HB9.out.size)
      have hr9:=(hw.block br (ZL HKX9.out.2)).trans HKX9.out.2
      have hst:=rat_put hr9 HNE.out.2 hbw h4
      have f0:=ZF hr9 0
      have f1':=ZF hr9 1
      have f2':=ZF hr9 2
      have f3':=ZF hr9 3
      obtain ⟨y0,y1,y2,y3⟩:=cells4 (ZR _ w') hr9
      have HF:=ZH hst
      clear hst hr9 hb hw hbw h4
      go_wp2_with fail
      exact bodyPost_ret (v:=.agg #[.bool u1,.slice i1 j1 o1,.bool u2,.slice i2 j2 o2]) (by simp[results,Tryz.results50,go_sem,y0,y1,y2,y3]) rfl ⟨HF.out.below,_,rfl,by rw[eval,HBA.out.2]; exact HF.out.rt⟩
    ·have e2:(o==2)=false:=by simpa using h2
     obtain ⟨z0,z1,z2,z3⟩:=cells4 (ZR _ wr) HKO9.out
     by_cases h5:o=5
     ·subst h5
      have HFM:=ZH (show ∃a,x=.abs a from by
       have:=HN.out.2.2.2.2.2
       cases x with
       | abs a=>exact ⟨a,rfl⟩
       | _=>exact absurd this (by simp[opG]))
      obtain ⟨a,rfl⟩:=HFM.out
      clear HFM h2
      have hcb:evTo 5 rs (argG (.abs a)) (argG (.abs a)).length=eval rs a:=evTo_one 5 rs (l:=[a]) (by simp)
      rw[hcb,show 2+eszs (argG (.abs a))=esz (.abs a) by simp[argG,eszs,esz]; omega] at HRO9
      clear hcb
      go_wp2_with fail
      refine (pabs_any HRO9.out).mono ?_
      rintro e w5 ⟨v5,rfl,hr5,hb5⟩
      obtain ⟨u1,i1,j1,o1,u2,i2,j2,o2,rfl⟩:=rt_shape hr5
      have hbw:=HB9.out.trans (hb5.mono HB9.out.size)
      have hr9:=(hb5.block br (ZL HKX9.out.2)).trans HKX9.out.2
      have hst:=rat_put hr9 HNE.out.2 hbw hr5
      have f0:=ZF hr9 0
      have f1':=ZF hr9 1
      have f2':=ZF hr9 2
      have f3':=ZF hr9 3
      obtain ⟨y0,y1,y2,y3⟩:=cells4 (ZR _ w5) hr9
      have HF:=ZH hst
      clear hst hr9 hb5 hbw hr5 x0 x1 x2 x3 x4 z0 z1 z2 z3
      go_wp2_with fail
      exact bodyPost_ret (v:=.agg #[.bool u1,.slice i1 j1 o1,.bool u2,.slice i2 j2 o2]) (by simp[results,Tryz.results50,go_sem,y0,y1,y2,y3]) rfl ⟨HF.out.below,_,rfl,by rw[eval]; exact HF.out.rt⟩
     ·have e5:(o==5)=false:=by simpa using h5
      have hcb:evTo o rs (argG x) (argG x).length=eval rs x:=by
       have h3:=HN.out.2.2.2.2.2
       rw[h3]
       exact ev_all HOP.out.2 (by rw[←h3]; exact h2) (by rw[←h3]; exact h5) rs
      have hsz:2+eszs (argG x)≤esz x:=evz_le HOP.out.2
      rw[hcb] at HRO9
      have HROF:=ZH (HRO9.out.more hsz)
      clear h2 h5 hcb hsz HW9 HRO9
      have hr9:=HKX9.out.2
      have hst:=rat_put hr9 HNE.out.2 HB9.out HROF.out
      have f0:=ZF hr9 0
      have f1':=ZF hr9 1
      have f2':=ZF hr9 2
      have f3':=ZF hr9 3
      obtain ⟨y0,y1,y2,y3⟩:=cells4 (ZR _ wr) hr9
      have HF:=ZH hst
      clear hst hr9
      go_wp2_with fail
      exact bodyPost_ret (v:=.agg #[.bool p1,.slice a1 c1 l1,.bool p2,.slice a2 c2 l2]) (by simp[results,Tryz.results50,go_sem,y0,y1,y2,y3]) rfl ⟨HF.out.below,_,rfl,HF.out.rt⟩
theorem pevaluate_any {n:Nat} (hn:n≤900) {rs:List Rat} {K:Nat} (hK:2≤K∧K≤12):∀(m:Nat) (x:GEx),dep x≤m→EvFine n x→UptoG rs.length x→∀(w:World) (v:Value) (ar:Option Addr) (cr:Nat),Glob w→RatsAt w ar cr rs K→ExIn w (raw x) v→Calls Tryz.prog 50 #[v,.slice ar rs.length cr] w (PvPost w rs x)
 | 0,x,hm,_,_=>by cases x<;>rw[dep] at hm<;>omega
 | m+1,x,hm,hf,hu=>fun w v ar cr hg hr hx=>pevaluate_step hn hK x (fun j hj=>pevaluate_any hn hK m _ (by have:=arg_dep hj; omega) (hf.arg hj) (arg_upto hu hj)) hf hu hg hr hx
end Go.Proofs.YtdgimcmappmjdaaGreatDoor

