/- dimension.Evaluate, with values that do not suffice. -/
import Derived.Test.YtdgimcmappmjdaaGreatDoorMBoundsM
import Derived.Test.YtdgimcmappmjdaaGreatDoorK9
import Derived.Test.YtdgimcmappmjdaaGreatDoorKS
import Derived.Test.YtdgimcmappmjdaaGreatDoorKN
set_option linter.unusedSimpArgs false
set_option linter.unusedVariables false
set_option maxRecDepth 100000
namespace Go.Proofs.YtdgimcmappmjdaaGreatDoor
open List renaming setIfInBounds_toArray → zLa, set_cons_zero → zLb, set_cons_succ → zLc
open FlowR renaming putSel → zFp
open Act renaming put → zAp
open Nat renaming zero_add → zNz
open Flow.Steps renaming cons → zSc, nil → zSn
open FlowR.Step renaming of → zSo
open Go.RowKit Go.Num Go.Flow
open Go.Gx (LF GEx mn mx ab eval evals dep Over)
set_option maxHeartbeats 8000000
set_option linter.unusedVariables false

def EvPost (w:World) (rs:List Rat) (x:GEx) (e:Ending) (w':World):Prop:=Below w.heap.size w w'∧((UptoG rs.length x∧∃v,e=.returned (.tuple #[v,.int .i64 0])∧RtIn w' v (eval rs x) (esz x))∨(¬UptoG rs.length x∧e=.returned (.tuple #[.agg #[.bool false,.slice none 0 0,.bool false,.slice none 0 0],.int .i64 13])))
structure EvFine (n:Nat) (x:GEx):Prop where
 over:Over n x
 lite:Lite x
 size:esz x≤100000
theorem EvFine.arg {n:Nat} {x:GEx} (h:EvFine n x) {j:Nat} (hj:j<(argG x).length):EvFine n ((argG x).getD j (.add [])):=by
 refine ⟨arg_over h.over hj,arg_lite h.lite hj,?_⟩
 have h1:=evz_le (x:=x) (by cases x<;>simp[opG,argG] at hj⊢)
 have h2:=eszs_take hj
 have h3:=eszs_le (l:=argG x) (k:=j+1)
 have h4:=h.size
 unfold evz at h1
 omega
theorem form_value {w:World} {x:GEx} {f:LF} (hfx:x=.form f) {n:Nat} (hn:n≤900) (hfi:EvFine n x) {rs:List Rat} {K:Nat} (hK:2≤K∧K≤12) (hg:Glob w) {ar:Option Addr} {cr:Nat} (hr:RatsAt w ar cr rs K) {tv:Value} (ht:TermsZ w tv (zTerms (formTexts f))) :
  Calls Tryz.prog 29 #[.agg #[.string ⟨(numText f.c).toArray⟩,tv],.slice ar rs.length cr] w (EvPost w rs x):=by
 subst hfx
 have hfo:f.t.length=n:=by have:=hfi.over; rwa[Over] at this
 have hlf:=lite_form hfi.lite
 have hfz:=fine_texts hlf hfo
 have hlen:=texts_len f
 have hform:FormAt w (.agg #[.string ⟨(numText f.c).toArray⟩,tv]) (numText f.c) (formTexts f):=⟨tv,rfl,TermsZ.nat ht⟩
 have hat:∀j,j<(formTexts f).length→(formTexts f).getD j (0,[])∈formTexts f:=fun j hj=>by
  rw[List.getD_eq_getElem?_getD,List.getElem?_eq_getElem hj]
  exact List.getElem_mem hj
 have hc:=(liteF_texts hlf).1
 have hc0:readErr (numText f.c) 65536=0:=read_num_ok (by omega) (by omega)
 have hsz:=hfi.size
 rw[esz,hfo] at hsz
 have hb:(60+2)+((formTexts f).length+1)*(60+K+3)≤900000:=by
  have:=Nat.mul_le_mul (show (formTexts f).length+1≤901 by omega) (show 60+K+3≤75 by omega)
  omega
 by_cases hu:Upto rs.length f
 ·have h:=mValue_any hg hform (by omega) hr hK.1 (S:=60) hc hc0 (by omega) (fun j hj=>⟨(upto_terms.1 hu) _ (hat j hj),(hfz _ (hat j hj)).2⟩) hb
  refine h.mono ?_
  rintro e w' ⟨v,rfl,hv,hbe⟩
  have e9:valueTo (numText f.c) (formTexts f) rs (formTexts f).length=eval rs (.form f):=by
   rw[eval]
   unfold valueTo
   rw[List.take_length,read_num]
   exact value_texts fun i hi=>hu i hi
  rw[e9] at hv
  exact ⟨hbe,.inl ⟨by rw[UptoG]; exact hu,v,rfl,hv.more (by
   rw[esz]
   have:=Nat.mul_le_mul (show (formTexts f).length≤f.t.length from hlen) (show 60+K+3≤75 by omega)
   omega)⟩⟩
 ·have h:=mValue_short hg hform (by omega) hr hK.1 (S:=60) hc hc0 (by omega) (upto_short hu) (fun j hj=>(hfz _ (hat j hj)).2) hb
  refine h.mono ?_
  rintro e w' ⟨rfl,hbe⟩
  exact ⟨hbe,.inr ⟨by rw[UptoG]; exact hu,rfl⟩⟩
theorem ev_all {x:GEx} (h0:opG x≠0) (h2:opG x≠2) (h5:opG x≠5) (rs:List Rat):evTo (opG x) rs (argG x) (argG x).length=eval rs x:=by
 cases x with
 | form f=>exact absurd rfl h0
 | scale q a=>exact absurd rfl h2
 | abs a=>exact absurd rfl h5
 | add l=>exact ev_add _ _
 | min l=>exact ev_min _ _
 | max l=>exact ev_max _ _
theorem factor_text {n:Nat} {q:Rat} {a:GEx} (hfi:EvFine n (.scale q a)):(numText q).length≤60:=by
 obtain ⟨h1,h2⟩:=hfi.lite
 have h3:=hfi.over
 rw[Go.Gx.Den] at h1
 rw[Go.Gx.wt] at h2
 rw[Over] at h3
 obtain ⟨d,r,e,h4,-⟩:=h1
 have h5:=Go.Gx.one_wt h3
 have h6:=Go.Gx.big_ab q
 have h7:=Go.Gx.big_one q
 refine (lite_num (r:=q) ?_ ?_).1
 ·have:=Go.Gx.m2_more h4 (20-d)
  rwa[show 20-d+d=20 by omega] at this
 ·have h8:Go.Gx.big q*1≤Go.Gx.big q*Go.Gx.wt a:=Rat.mul_le_mul_of_nonneg_left h5 (by grind)
  rw[Rat.mul_one] at h8
  exact Rat.le_trans h6 (Rat.le_trans h8 h2)
theorem eszs_len : ∀l:List GEx,l.length≤eszs l
 | []=>by simp
 | a::l=>by rw[eszs,List.length_cons]; have:=eszs_len l; omega
theorem mEvaluate_step {n:Nat} (hn:n≤900) {rs:List Rat} {K:Nat} (hK:2≤K∧K≤12) (x:GEx)
  (ih:∀j,j<(argG x).length→∀(w:World) (v:Value) (ar:Option Addr) (cr:Nat),Glob w→RatsAt w ar cr rs K→ExIn w (raw ((argG x).getD j (.add []))) v→Calls Tryz.prog 49 #[v,.slice ar rs.length cr] w (EvPost w rs ((argG x).getD j (.add []))))
  (hfi:EvFine n x) {w:World} {v:Value} {ar:Option Addr} {cr:Nat} (hg:Glob w) (hr:RatsAt w ar cr rs K) (hx:ExIn w (raw x) v):Calls Tryz.prog 49 #[v,.slice ar rs.length cr] w (EvPost w rs x):=by
 obtain ⟨tv,aa,ac,rfl,htz,hax⟩:=hx.out
 rw[raw_args] at hax⊢
 rw[raws_len] at hax⊢
 obtain ⟨ta,tc,rfl,-⟩:=id htz
 obtain ⟨s0,hs0⟩:∃s:ByteArray,s=⟨(raw x).c.toArray⟩:=⟨_,rfl⟩
 obtain ⟨s1,hs1⟩:∃s:ByteArray,s=⟨(raw x).f.toArray⟩:=⟨_,rfl⟩
 obtain ⟨tn,htn⟩:∃x',x'=(raw x).t.length:=⟨_,rfl⟩
 obtain ⟨an,han⟩:∃x',x'=(argG x).length:=⟨_,rfl⟩
 obtain ⟨nr,hnr⟩:∃x',x'=rs.length:=⟨_,rfl⟩
 obtain ⟨o,ho⟩:∃x',x'=(raw x).op:=⟨_,rfl⟩
 rw[←hs0,←hs1,←htn,←han,←ho,←hnr]
 unfold EvPost
 rw[←htn] at htz
 rw[←han] at hax
 have hoG:o=opG x:=by rw[ho,raw_op]
 obtain ⟨wa,bx,br,hwa,hbx,hbr,hal,k0,k1⟩:=new_two w #[.int .i64 o,.string s0,.slice ta tn tc,.string s1,.slice aa an ac] #[.bool false,.slice none 0 0,.bool false,.slice none 0 0] 63 43
 have hcap:an≤ac∧ac≤9223372036854775807:=by
  obtain ⟨_,_,e,h1,h2,-⟩:=hax
  simp only[Value.slice.injEq] at e
  obtain ⟨-,-,rfl⟩:=e
  rw[raws_len,←han] at h1
  exact ⟨h1,h2⟩
 have HG:=ZH hg
 have HD:=ZH hr
 have HFI:=ZH hfi
 have HTZ:=ZH htz
 have HAX:=ZH hax
 have HIH:=ZH ih
 have HAL:=ZH hal
 have HK:=ZH (ZN k0 k1)
 have HNE:=ZH (show bx≠br∧w.heap.size≤br by omega)
 have HN:=ZH (ZN han (ZN hnr (ZN hs0 (ZN hs1 (ZN htn hoG)))))
 have HW:=ZH (ZN hwa (ZN hbx hbr))
 have HKK:=ZH hK
 obtain ⟨x0,x1,x2,x3,x4⟩:=cells5 (ZR _ wa) k0
 clear hwa hbx hbr hal hg hr hfi htz hax ih hs0 hs1 htn hx ho han hnr hoG k0 k1 hK
 by_cases hop:o=0
 ·-- a form
  subst hop
  have HFM:=ZH (show ∃f,x=.form f from by
   have:=HN.out.2.2.2.2.2
   cases x with
   | form f=>exact ⟨f,rfl⟩
   | _=>exact absurd this (by simp[opG]))
  obtain ⟨f,hf⟩:=HFM.out
  have hval:=form_value hf hn HFI.out HKK.out (HG.out.below HAL.out) (HD.out.below HAL.out) (tv:=.slice ta tn tc) (by
   have h:=HTZ.out.below HAL.out
   rw[hf,raw] at h
   exact h)
  have hs0:s0=⟨(numText f.c).toArray⟩:=by rw[HN.out.2.2.1,hf,raw]; rfl
  rw[←HN.out.2.1,←hs0] at hval
  unfold EvPost at hval
  have HSP:=ZH hval
  clear HFM hf hval hs0
  go_enter Tryz.func49,Tryz.ntmps49
  go_upto_region 1 with fail
  rw[←HW.out.1,←HW.out.2.2,←HW.out.2.1]
  clear HW
  go_wp2_with fail
  refine HSP.out.mono ?_
  rintro e w1 ⟨hb1,hc⟩
  have hk1:=(hb1.block br (ZL HK.out.2)).trans HK.out.2
  have f0:=ZF hk1 0
  have f1':=ZF hk1 1
  have f2':=ZF hk1 2
  have f3':=ZF hk1 3
  rcases hc with ⟨hu,v1,rfl,hv⟩ | ⟨hu,rfl⟩
  ·obtain ⟨p1,g1,f1,n1,p2,g2,f2,n2,rfl⟩:=rt_shape hv
   obtain ⟨y0,y1,y2,y3⟩:=cells4 (ZR _ w1) hk1
   have hst:=rat_put hk1 HNE.out.2 (HAL.out.trans (hb1.mono HAL.out.size)) hv
   have HF:=ZH (ZN hst hu)
   clear hk1 hst hv hu hb1 HSP
   go_wp2_with fail
   exact bodyPost_ret (v:=.tuple #[.agg #[.bool p1,.slice g1 f1 n1,.bool p2,.slice g2 f2 n2],.int .i64 0]) (by simp[results,Tryz.results49,go_sem,y0,y1,y2,y3]) rfl ⟨HF.out.1.below,.inl ⟨HF.out.2,_,rfl,HF.out.1.rt⟩⟩
  ·obtain ⟨y0,y1,y2,y3⟩:=cells4 (ZR _ w1) hk1
   have hst:=rat_put hk1 HNE.out.2 (HAL.out.trans (hb1.mono HAL.out.size)) (zero_rt w1 2)
   have HF:=ZH (ZN hst hu)
   clear hk1 hst hu hb1 HSP
   go_wp2_with fail
   exact bodyPost_ret (v:=.tuple #[.agg #[.bool false,.slice none 0 0,.bool false,.slice none 0 0],.int .i64 13]) (by simp[results,Tryz.results49,go_sem,y0,y1,y2,y3]) rfl ⟨HF.out.1.below,.inr ⟨HF.out.2,rfl⟩⟩
 ·have e0:(o==0)=false:=by simpa using hop
  have HOP:=ZH hop
  clear hop
  have hn1:an≤100000:=by
   have h1:=HFI.out.size
   have h2:=evz_le (x:=x) (by rw[←HN.out.2.2.2.2.2]; exact HOP.out)
   have h4:=eszs_len (argG x)
   unfold evz at h2
   have:=HN.out.1
   omega
  go_enter Tryz.func49,Tryz.ntmps49
  go_upto_region 1 with fail
  rw[←HW.out.1,←HW.out.2.2,←HW.out.2.1]
  clear HW
  go_upto_region 4 with fail
  clear x0 x1 x2 x3 x4
  obtain ⟨wb,bo,hwb,hbo,hlb,kb⟩:=new_box wa #[.bool false,.slice none 0 0,.bool false,.slice none 0 0] 43
  rw[←hwb,←hbo]
  have HB0:=ZH (HAL.out.trans (hlb.mono HAL.out.size))
  have HK0:=ZH (ZN ((hlb.block bx (ZL HK.out.1)).trans HK.out.1) (ZN ((hlb.block br (ZL HK.out.2)).trans HK.out.2) kb))
  have HNO:=ZH (show bx≠bo∧br≠bo∧w.heap.size≤bo from by
   have h1:=ZL HK.out.1
   have h2:=ZL HK.out.2
   have h3:=HAL.out.size
   omega)
  clear hwb hbo hlb kb HK HAL
  obtain ⟨x0,x1,x2,x3,x4⟩:=cells5 (ZR _ wb) HK0.out.1
  go_wp2_with fail
  clear x0 x1 x2 x3 x4
  go_loopg [23] an (fun gk i wr=>∃k:Nat,k+gk=an∧i=.int .i64 k∧Hid (∃s1 a1 c1 l1 s2 a2 c2 l2,wr.heap[bo]?=some (.cells #[.bool s1,.slice a1 c1 l1,.bool s2,.slice a2 c2 l2] 43 (0,0))∧RtIn wr (.agg #[.bool s1,.slice a1 c1 l1,.bool s2,.slice a2 c2 l2]) (evTo o rs (argG x) k) (2+eszs ((argG x).take k)))∧Hid (wr.heap[bx]?=some (.cells #[.int .i64 o,.string s0,.slice ta tn tc,.string s1,.slice aa an ac] 63 (0,0))∧wr.heap[br]?=some (.cells #[.bool false,.slice none 0 0,.bool false,.slice none 0 0] 43 (0,0)))∧Hid (∀j,j<k→UptoG rs.length ((argG x).getD j (.add [])))∧Hid (Below w.heap.size w wr))
  case atStart=>exact ⟨0,by omega,rfl,ZH ⟨_,_,_,_,_,_,_,_,HK0.out.2.2,zero_rt _ _⟩,ZH ⟨HK0.out.1,HK0.out.2.1⟩,ZH (fun j hj=>by omega),HB0⟩
  case round=>
   obtain ⟨k,hk,rfl,hacc,hkx,hno,hbw⟩:=hrel
   obtain ⟨p1,a1,c1,l1,p2,a2,c2,l2,hko,hro⟩:=hacc.out
   by_cases hlt:k<an
   ·have e1:((k:Int)<(an:Int))=True:=eq_true (by omega)
    obtain ⟨_,_,he,-,-,hcx⟩:=HAX.out
    simp only[Value.slice.injEq] at he
    obtain ⟨rfl,-,rfl⟩:=he
    obtain ⟨g,og,rfl,-,hcc⟩:=hcx (by rw[raws_len,←HN.out.1]; omega)
    have hjl:k<(argG x).length:=by rw[←HN.out.1]; exact hlt
    obtain ⟨utv,ua,uc,c0,c1',c2',c3,c4,htk,hak⟩:=hcc.at (j:=k) (by rw[raws_len]; exact hjl)
    rw[raws_at hjl] at c0 c1' c3 c4 htk hak
    have hihk:=HIH.out k hjl
    have hct:=HFI.out.arg hjl
    have hck0:=fun (h0:k=0)=>evTo_one o rs (l:=argG x) (by omega)
    have hcks:=fun (h0:0<k)=>evTo_succ o rs hjl h0
    have hszk:=eszs_take hjl
    have hup:=fun (h:UptoG rs.length x)=>arg_upto h hjl
    obtain ⟨y,hy⟩:∃y,y=(argG x).getD k (.add []):=⟨_,rfl⟩
    rw[←hy] at c0 c1' c3 c4 htk hak hihk hct hszk hup
    have hck:evTo o rs (argG x) (k+1)=if k=0 then eval rs y else fop o (evTo o rs (argG x) k) (eval rs y):=by
     by_cases h0:k=0
     ·rw[if_pos h0,hy,h0]
      exact hck0 h0
     ·rw[if_neg h0,hy]
      exact hcks (by omega)
    clear hck0 hcks
    obtain ⟨uta,utc,rfl,-⟩:=id htk
    obtain ⟨uo,huo⟩:∃q,q=(raw y).op:=⟨_,rfl⟩
    obtain ⟨us0,hus0⟩:∃s:ByteArray,s=⟨(raw y).c.toArray⟩:=⟨_,rfl⟩
    obtain ⟨us1,hus1⟩:∃s:ByteArray,s=⟨(raw y).f.toArray⟩:=⟨_,rfl⟩
    obtain ⟨utn,hutn⟩:∃q,q=(raw y).t.length:=⟨_,rfl⟩
    obtain ⟨uan,huan⟩:∃q,q=(raw y).a.length:=⟨_,rfl⟩
    have hyx:=ExIn.of htk hak
    rw[←huo,←hus0,←hus1,←hutn,←huan] at hyx
    rw[←huo] at c0
    rw[←hus0] at c1'
    rw[←hutn] at c2'
    rw[←hus1] at c3
    rw[←huan] at c4
    have x0:=ZJ hbw.out c0
    have x1:=ZJ hbw.out c1'
    have x2:=ZJ hbw.out c2'
    have x3:=ZJ hbw.out c3
    have x4:=ZJ hbw.out c4
    have HY:=ZH (ZN hyx hct)
    have HIK:=ZH (show ∀(w:World) (v:Value) (ar:Option Addr) (cr:Nat),Glob w→RatsAt w ar cr rs K→ExIn w (raw y) v→Calls Tryz.prog 49 #[v,.slice ar nr cr] w (EvPost w rs y) from by rw[HN.out.2.1]; exact hihk)
    have HLT:=ZH (ZN hlt (ZN hck hszk))
    have HUP:=ZH (ZN hup (show UptoG rs.length y→∀j,j<k+1→UptoG rs.length ((argG x).getD j (.add [])) from fun h j hj=>by
     rcases Nat.lt_or_eq_of_le (Nat.le_of_lt_succ hj) with h9 | h9
     ·exact hno.out j h9
     ·rw[h9,←hy]; exact h))
    have HKX:=ZH hkx.out
    have HKO:=ZH hko
    have HRO:=ZH hro
    have hk0:(0:Int)≤(k:Int):=by omega
    have hk1:(k:Int)<(an:Int):=by omega
    obtain ⟨va,hva⟩:∃q,q=evTo o rs (argG x) k:=⟨_,rfl⟩
    rw[←hva] at HRO HLT
    obtain ⟨K0,hK0⟩:∃q,q=2+eszs ((argG x).take k):=⟨_,rfl⟩
    rw[←hK0] at HRO
    have HBD:=ZH (show K0+esz y+1≤100000∧2+eszs ((argG x).take (k+1))=K0+esz y+1∧2≤K0∧2≤esz y by
     have h1:=HFI.out.size
     have h2:=evz_le (x:=x) (by rw[←HN.out.2.2.2.2.2]; exact HOP.out)
     have h3:=eszs_le (l:=argG x) (k:=k+1)
     have h4:=esz_two y
     unfold evz at h2
     omega)
    clear hcx hcc c0 c1' c2' c3 c4 htk hak hihk hct hszk hy hck huo hus0 hus1 hutn huan hyx hlt hkx hko hro hacc hva hK0 hjl hup hno
    go_upto_region 7 with fail
    obtain ⟨w4,by',hw4,hby,hl4,ky⟩:=new_box wr #[.int .i64 uo,.string us0,.slice uta utn utc,.string us1,.slice ua uan uc] 63
    rw[←hw4,←hby]
    have HB4:=ZH (hbw.out.trans (hl4.mono hbw.out.size))
    have HKX4:=ZH (ZN ((hl4.block bx (ZL HKX.out.1)).trans HKX.out.1) ((hl4.block br (ZL HKX.out.2)).trans HKX.out.2))
    have HKO4:=ZH ((hl4.block bo (ZL HKO.out)).trans HKO.out)
    have HRO4:=ZH (HRO.out.below hl4)
    obtain ⟨y0,y1,y2,y3,y4⟩:=cells5 (ZR _ w4) ky
    have hcall:=HIK.out _ _ _ _ (HG.out.below HB4.out) (HD.out.below HB4.out) (HY.out.1.below HB4.out)
    unfold EvPost at hcall
    have HCL:=ZH hcall
    clear hw4 hby hl4 ky x0 x1 x2 x3 x4 hk0 hk1 HKX HKO HRO hbw hcall HIK
    go_wp2_with fail
    refine HCL.out.mono ?_
    rintro e w5 ⟨hb5,hc⟩
    rcases hc with ⟨hu,v1,rfl,hv⟩ | ⟨hu,rfl⟩
    ·obtain ⟨q1,g1,i1,j1,q2,g2,i2,j2,rfl⟩:=rt_shape hv
     have HV5:=ZH hv
     have HU5:=ZH (HUP.out.2 hu)
     have HB5:=ZH hb5
     clear hv hu hb5 y0 y1 y2 y3 y4 HCL HUP
     go_upto_region 8 with fail
     obtain ⟨w6,bv,hw6,hbv,hl6,kv⟩:=new_box w5 #[.bool q1,.slice g1 i1 j1,.bool q2,.slice g2 i2 j2] 43
     rw[←hw6,←hbv]
     have h46:=HB5.out.trans (hl6.mono HB5.out.size)
     have HB6:=ZH (HB4.out.trans (h46.mono HB4.out.size))
     have HKX6:=ZH (ZN ((h46.block bx (ZL HKX4.out.1)).trans HKX4.out.1) ((h46.block br (ZL HKX4.out.2)).trans HKX4.out.2))
     have HKO6:=ZH ((h46.block bo (ZL HKO4.out)).trans HKO4.out)
     have HRO6:=ZH (HRO4.out.below h46)
     have HV6:=ZH (ZN kv (HV5.out.below hl6))
     have HW6:=ZH (ZR w6.heap.size w6)
     clear hw6 hbv hl6 kv h46 HB4 HKX4 HKO4 HRO4 HV5 HB5
     go_upto_region 10 with fail
     by_cases h0:k=0
     ·subst h0
      go_upto_region 11 with fail
      have hst:=rat_put HKO6.out HNO.out.2.2 HB6.out HV6.out.2
      obtain ⟨o0,o1,o2,o3⟩:=cells4 (ZR _ w6) HKO6.out
      have f0:=ZF HKO6.out 0
      have f1':=ZF HKO6.out 1
      have f2':=ZF HKO6.out 2
      have f3':=ZF HKO6.out 3
      obtain ⟨z0,z1,z2,z3⟩:=cells4 (ZR _ w6) HV6.out.1
      have hkx8:=(hst.but.block bx HNO.out.1 (ZL HKX6.out.1)).trans HKX6.out.1
      have hkr8:=(hst.but.block br HNO.out.2.1 (ZL HKX6.out.2)).trans HKX6.out.2
      have HF:=ZH (ZN hst (ZN hkx8 hkr8))
      clear hst hkx8 hkr8
      go_wp2_with fail
      go_roundg (an-(0+1))
      case measure=>have:=HLT.out.1; omega
      case rel=>exact ⟨0+1,by have:=HLT.out.1; omega,by congr 1,ZH ⟨_,_,_,_,_,_,_,_,HF.out.1.1,by rw[HLT.out.2.1,if_pos trivial,HBD.out.2.1]; exact HF.out.1.rt.more (by omega)⟩,ZH ⟨HF.out.2.1,HF.out.2.2⟩,HU5,ZH HF.out.1.below⟩
     ·have e2:((k:Int)==0)=false:=by simp; omega
      have hck:=HLT.out.2.1
      rw[if_neg h0] at hck
      have HCK:=ZH hck
      clear h0 hck
      go_upto_region 12 with fail
      refine FlowR.wp_region_sel (fun a b=>Below a.heap.size a b) (fun a=>ZR _ a) (fun _ _ _ h k=>h.trans (k.mono h.size)) [0,1,2,3,4,5] [false,false,false,false,false,false,false] [true,true,true,true,true,true,false] (fun i9 v w'=>match i9 with
       | 0=>v=.pointer (some ⟨bx,0,none⟩)
       | 1=>v=.int .i64 o
       | 2=>v=.func (.func (pickF o)) #[] #[]
       | 3=>v=.agg #[.bool p1,.slice a1 c1 l1,.bool p2,.slice a2 c2 l2]
       | 4=>v=.agg #[.bool q1,.slice g1 i1 j1,.bool q2,.slice g2 i2 j2]
       | _=>RtIn w' v (fop o va (eval rs y)) (K0+esz y+1)) rfl rfl (by kernel_rfl) (by kernel_rfl) (by kernel_rfl) (by kernel_rfl) ?st ?steps ?fin
      case st=>
       intro i9 v u1 u2 h hb
       match i9 with
       | 0 | 1 | 2 | 3 | 4=>exact h
       | 5 | _+6=>exact (show RtIn u1 v (fop o va (eval rs y)) (K0+esz y+1) from h).below hb
      case steps=>
       refine zSc (zSo rfl ?s0) (zSc (zSo rfl ?s1) (zSc (zSo rfl ?s2) (zSc (zSo rfl ?s3) (zSc (zSo rfl ?s4) (zSc (zSo rfl ?s5) zSn)))))
       case s0=>
        intro xs w' hb hT K9 hK9
        clear hT
        simp only[zFp,zAp,zLa,zLb,zLc,Nat.reduceAdd,zNz] at hK9⊢
        have hw:=Flow.hwD HW6.out hb
        go_simp
        exact hK9 _ _ (ZR _ _) rfl
       case s1=>
        intro xs w' hb hT K9 hK9
        have h0:(xs 0)=.pointer (some ⟨bx,0,none⟩):=hT 0 (by kernel_rfl)
        clear hT
        simp only[zFp,zAp,zLa,zLb,zLc,Nat.reduceAdd,zNz] at hK9⊢
        have hw:=Flow.hwD HW6.out hb
        have kb:=(hw.block bx (ZL HKX6.out.1)).trans HKX6.out.1
        have y0:=ZI kb 0
        clear kb
        simp at y0
        (try simp only[h0] at hK9)
        go_simp
        exact hK9 _ _ (ZR _ _) rfl
       case s2=>
        intro xs w' hb hT K9 hK9
        have h1:(xs 1)=.int .i64 o:=hT 1 (by kernel_rfl)
        clear hT
        simp only[zFp,zAp,zLa,zLb,zLc,Nat.reduceAdd,zNz] at hK9⊢
        have hw:=Flow.hwD HW6.out hb
        (try simp only[h1] at hK9)
        go_simp
        go_at_call 72
        refine (mpick_any o).mono ?_
        rintro e w3 ⟨rfl,hb3⟩
        exact hK9 _ _ hb3 rfl
       case s3=>
        intro xs w' hb hT K9 hK9
        clear hT
        simp only[zFp,zAp,zLa,zLb,zLc,Nat.reduceAdd,zNz] at hK9⊢
        have hw:=Flow.hwD HW6.out hb
        have kb:=(hw.block bo (ZL HKO6.out)).trans HKO6.out
        have y0:=ZI kb 0
        have y1:=ZI kb 1
        have y2:=ZI kb 2
        have y3:=ZI kb 3
        clear kb
        simp at y0 y1 y2 y3
        go_simp
        exact hK9 _ _ (ZR _ _) rfl
       case s4=>
        intro xs w' hb hT K9 hK9
        clear hT
        simp only[zFp,zAp,zLa,zLb,zLc,Nat.reduceAdd,zNz] at hK9⊢
        have hw:=Flow.hwD HW6.out hb
        have kb:=(hw.block bv (ZL HV6.out.1)).trans HV6.out.1
        have y0:=ZI kb 0
        have y1:=ZI kb 1
        have y2:=ZI kb 2
        have y3:=ZI kb 3
        clear kb
        simp at y0 y1 y2 y3
        go_simp
        exact hK9 _ _ (ZR _ _) rfl
       case s5=>
        intro xs w' hb hT K9 hK9
        have h2:(xs 2)=.func (.func (pickF o)) #[] #[]:=hT 2 (by kernel_rfl)
        have h3:(xs 3)=.agg #[.bool p1,.slice a1 c1 l1,.bool p2,.slice a2 c2 l2]:=hT 3 (by kernel_rfl)
        have h4:(xs 4)=.agg #[.bool q1,.slice g1 i1 j1,.bool q2,.slice g2 i2 j2]:=hT 4 (by kernel_rfl)
        clear hT
        simp only[zFp,zAp,zLa,zLb,zLc,Nat.reduceAdd,zNz] at hK9⊢
        have hw:=Flow.hwD HW6.out hb
        (try simp only[h2] at hK9)
        (try simp only[h3] at hK9)
        (try simp only[h4] at hK9)
        have he:=enters_pick o
        go_simp
        refine (pick_any (o:=o) (HRO6.out.below hw) (HV6.out.2.below hw) HBD.out.2.2.1 HBD.out.2.2.2 (by have:=HBD.out; omega)).mono ?_
        rintro e w3 ⟨v3,rfl,hi3,hb3⟩
        exact hK9 _ _ hb3 hi3
      case fin=>
       intro xs w' hb hT
       have hw:=Flow.hwD HW6.out hb
       have h5:RtIn w' (xs 5) (fop o va (eval rs y)) (K0+esz y+1):=hT 5 (by rfl)
       clear hT
       simp only[zFp,zAp,zLa,zLb,zLc,Nat.reduceAdd,zNz,FlowR.restL,FlowR.orM,Bool.false_or]
       obtain ⟨p1',g7,i7,j7,p2',g8,i8,j8,e5⟩:=rt_shape h5
       rw[e5] at h5
       simp only[e5]
       clear e5
       have k9:=(hw.block bo (ZL HKO6.out)).trans HKO6.out
       have hst:=rat_put k9 HNO.out.2.2 (HB6.out.trans (hw.mono HB6.out.size)) h5
       obtain ⟨o0,o1,o2,o3⟩:=cells4 (ZR _ w') k9
       have f0:=ZF k9 0
       have f1':=ZF k9 1
       have f2':=ZF k9 2
       have f3':=ZF k9 3
       have hx9:=(hw.block bx (ZL HKX6.out.1)).trans HKX6.out.1
       have hr9:=(hw.block br (ZL HKX6.out.2)).trans HKX6.out.2
       have hkx8:=(hst.but.block bx HNO.out.1 (ZL hx9)).trans hx9
       have hkr8:=(hst.but.block br HNO.out.2.1 (ZL hr9)).trans hr9
       have HF:=ZH (ZN hst (ZN hkx8 hkr8))
       clear hst hkx8 hkr8 hx9 hr9 k9 h5 hb hw
       go_wp2_with fail
       go_roundg (an-(k+1))
       case measure=>have:=HLT.out.1; omega
       case rel=>exact ⟨k+1,by have:=HLT.out.1; omega,by congr 1,ZH ⟨_,_,_,_,_,_,_,_,HF.out.1.1,by rw[HCK.out,HBD.out.2.1]; exact HF.out.1.rt⟩,ZH ⟨HF.out.2.1,HF.out.2.2⟩,HU5,ZH HF.out.1.below⟩
    ·have HU5:=ZH (show ¬UptoG rs.length x from fun h=>hu (HUP.out.1 h))
     have HB5:=ZH hb5
     clear hu hb5 y0 y1 y2 y3 y4 HCL HUP
     go_upto_region 8 with fail
     obtain ⟨w6,bv,hw6,hbv,hl6,kv⟩:=new_box w5 #[.bool false,.slice none 0 0,.bool false,.slice none 0 0] 43
     rw[←hw6,←hbv]
     have h46:=HB5.out.trans (hl6.mono HB5.out.size)
     have hk1:=(h46.block br (ZL HKX4.out.2)).trans HKX4.out.2
     have hst:=rat_put hk1 HNE.out.2 (HB4.out.trans (h46.mono HB4.out.size)) (zero_rt w6 2)
     have f0:=ZF hk1 0
     have f1':=ZF hk1 1
     have f2':=ZF hk1 2
     have f3':=ZF hk1 3
     obtain ⟨y0,y1,y2,y3⟩:=cells4 (ZR _ w6) hk1
     have HF:=ZH hst
     clear hw6 hbv hl6 kv h46 hk1 hst
     go_wp2_with fail
     exact bodyPost_ret (v:=.tuple #[.agg #[.bool false,.slice none 0 0,.bool false,.slice none 0 0],.int .i64 13]) (by simp[results,Tryz.results49,go_sem,y0,y1,y2,y3]) rfl ⟨HF.out.below,.inr ⟨HU5.out,rfl⟩⟩
   ·have e1:((k:Int)<(an:Int))=False:=eq_false (by omega)
    obtain rfl:k=an:=by omega
    have HKX9:=ZH hkx.out
    have HKO9:=ZH hko
    rw[HN.out.1,List.take_length] at hro
    have HRO9:=ZH hro
    have HB9:=ZH hbw.out
    have HUX:=ZH (show UptoG rs.length x from arg_upto_of (by rw[←HN.out.2.2.2.2.2]; exact HOP.out) (fun j hj=>hno.out j (by rw[HN.out.1]; exact hj)))
    have HW9:=ZH (ZR wr.heap.size wr)
    clear hacc hkx hko hro hbw hno
    obtain ⟨x0,x1,x2,x3,x4⟩:=cells5 (ZR _ wr) HKX9.out.1
    by_cases h2:o=2
    ·subst h2
     have HFM:=ZH (show ∃q a,x=.scale q a from by
      have:=HN.out.2.2.2.2.2
      cases x with
      | scale q a=>exact ⟨q,a,rfl⟩
      | _=>exact absurd this (by simp[opG]))
     obtain ⟨q,a,rfl⟩:=HFM.out
     clear HFM
     have hqt:=factor_text HFI.out
     have hs1:s1.data.toList=numText q:=by rw[HN.out.2.2.2.1,raw]; rfl
     have hrd:=fun (W:World) (hW:Below w.heap.size w W)=>mread_any s1 (w:=W) (by
      have h1:s1.size=(numText q).length:=by rw[HN.out.2.2.2.1,raw]; simp[ByteArray.size,Ex.f]
      omega) (HG.out.below hW) (by rw[hs1]; exact read_num_ok (by omega) (by omega))
     rw[hs1,read_num] at hrd
     have HRD:=ZH hrd
     have HQ:=ZH hqt
     have hcb:evTo 2 rs (argG (.scale q a)) (argG (.scale q a)).length=eval rs a:=evTo_one 2 rs (l:=[a]) (by simp)
     rw[hcb,show 2+eszs (argG (.scale q a))=esz a+3 by simp[argG,eszs]; omega] at HRO9
     have HBA:=ZH (show esz a≤100000∧esz (.scale q a)=62+(esz a+3) by
      have:=HFI.out.size
      rw[esz] at this⊢
      omega)
     clear hqt hs1 hrd hcb
     go_upto_region 16 with fail
     refine FlowR.wp_region_sel (fun a b=>Below a.heap.size a b) (fun a=>ZR _ a) (fun _ _ _ h k=>h.trans (k.mono h.size)) [0,1,2,3,4] [false,false,false,false,false,false] [true,true,true,true,true,false] (fun i9 v w'=>match i9 with
      | 0=>v=.pointer (some ⟨bx,3,none⟩)
      | 1=>v=.string s1
      | 2=>RtIn w' v q 62
      | 3=>v=.agg #[.bool p1,.slice a1 c1 l1,.bool p2,.slice a2 c2 l2]
      | _=>RtIn w' v (q*eval rs a) (62+(esz a+3))) rfl rfl (by kernel_rfl) (by kernel_rfl) (by kernel_rfl) (by kernel_rfl) ?st ?steps ?fin
     case st=>
      intro i9 v u1 u2 h hb
      match i9 with
      | 0 | 1 | 3=>exact h
      | 2=>exact (show RtIn u1 v q 62 from h).below hb
      | 4 | _+5=>exact (show RtIn u1 v (q*eval rs a) (62+(esz a+3)) from h).below hb
     case steps=>
      refine zSc (zSo rfl ?s0) (zSc (zSo rfl ?s1) (zSc (zSo rfl ?s2) (zSc (zSo rfl ?s3) (zSc (zSo rfl ?s4) zSn))))
      case s0=>
       intro xs w' hb hT K9 hK9
       clear hT
       simp only[zFp,zAp,zLa,zLb,zLc,Nat.reduceAdd,zNz] at hK9⊢
       have hw:=Flow.hwD HW9.out hb
       go_simp
       exact hK9 _ _ (ZR _ _) rfl
      case s1=>
       intro xs w' hb hT K9 hK9
       have h0:(xs 0)=.pointer (some ⟨bx,3,none⟩):=hT 0 (by kernel_rfl)
       clear hT
       simp only[zFp,zAp,zLa,zLb,zLc,Nat.reduceAdd,zNz] at hK9⊢
       have hw:=Flow.hwD HW9.out hb
       have kb:=(hw.block bx (ZL HKX9.out.1)).trans HKX9.out.1
       have y0:=ZI kb 3
       clear kb
       simp at y0
       (try simp only[h0] at hK9)
       go_simp
       exact hK9 _ _ (ZR _ _) rfl
      case s2=>
       intro xs w' hb hT K9 hK9
       have h1:(xs 1)=.string s1:=hT 1 (by kernel_rfl)
       clear hT
       simp only[zFp,zAp,zLa,zLb,zLc,Nat.reduceAdd,zNz] at hK9⊢
       have hw:=Flow.hwD HW9.out hb
       (try simp only[h1] at hK9)
       go_simp
       go_at_call 73
       refine (HRD.out w' (HB9.out.trans (hw.mono HB9.out.size))).mono ?_
       rintro e w3 ⟨v3,rfl,hi3,hb3⟩
       exact hK9 _ _ hb3 (hi3.more (by have:=HQ.out; omega))
      case s3=>
       intro xs w' hb hT K9 hK9
       clear hT
       simp only[zFp,zAp,zLa,zLb,zLc,Nat.reduceAdd,zNz] at hK9⊢
       have hw:=Flow.hwD HW9.out hb
       have kb:=(hw.block bo (ZL HKO9.out)).trans HKO9.out
       have y0:=ZI kb 0
       have y1:=ZI kb 1
       have y2:=ZI kb 2
       have y3:=ZI kb 3
       clear kb
       simp at y0 y1 y2 y3
       go_simp
       exact hK9 _ _ (ZR _ _) rfl
      case s4=>
       intro xs w' hb hT K9 hK9
       have h2:RtIn w' (xs 2) q 62:=hT 2 (by kernel_rfl)
       have h3:(xs 3)=.agg #[.bool p1,.slice a1 c1 l1,.bool p2,.slice a2 c2 l2]:=hT 3 (by kernel_rfl)
       clear hT
       simp only[zFp,zAp,zLa,zLb,zLc,Nat.reduceAdd,zNz] at hK9⊢
       have hw:=Flow.hwD HW9.out hb
       (try simp only[h3] at hK9)
       go_simp
       go_at_call 74
       refine (ratMul_any h2 (HRO9.out.below hw) (by omega) (by omega) (by have:=HBA.out; omega)).mono ?_
       rintro e w3 ⟨v3,rfl,hi3,hb3⟩
       exact hK9 _ _ hb3 hi3
     case fin=>
      intro xs w' hb hT
      have hw:=Flow.hwD HW9.out hb
      have h4:RtIn w' (xs 4) (q*eval rs a) (62+(esz a+3)):=hT 4 (by rfl)
      clear hT
      simp only[zFp,zAp,zLa,zLb,zLc,Nat.reduceAdd,zNz,FlowR.restL,FlowR.orM,Bool.false_or]
      obtain ⟨u1,i1,j1,o1,u2,i2,j2,o2,e5⟩:=rt_shape h4
      rw[e5] at h4
      simp only[e5]
      clear e5
      have hko9:=(hw.block bo (ZL HKO9.out)).trans HKO9.out
      have hkr9:=(hw.block br (ZL HKX9.out.2)).trans HKX9.out.2
      have hst:=rat_put hko9 HNO.out.2.2 (HB9.out.trans (hw.mono HB9.out.size)) h4
      obtain ⟨e90,e91,e92,e93⟩:=cells4 (ZR _ w') hko9
      obtain ⟨wd,hwd⟩:∃x,x=(((w'.setCell ⟨bo,0,none⟩ (.bool u1)).setCell ⟨bo,1,none⟩ (.slice i1 j1 o1)).setCell ⟨bo,2,none⟩ (.bool u2)).setCell ⟨bo,3,none⟩ (.slice i2 j2 o2):=⟨_,rfl⟩
      have f0:=ZF hko9 0
      have f1':=ZF hko9 1
      have f2':=ZF hko9 2
      have f3':=ZF hko9 3
      have hkd:=hst.block
      have hrd:=hst.rt
      have hbd:=hst.below
      have hrr:=(hst.but.block br HNO.out.2.1 (ZL hkr9)).trans hkr9
      rw[←hwd] at hkd hrd hbd hrr
      have HD9:=ZH (ZN hkd (ZN hrd (ZN hbd hrr)))
      clear hst hko9 hkd hrd hbd hrr hkr9
      clear h4 hb hw x0 x1 x2 x3 x4
      go_upto_region 19 with fail
      rw[←hwd]
      clear hwd f0 f1' f2' f3' e90 e91 e92 e93
      have hk9:=HD9.out.1
      have hr9:=HD9.out.2.2.2
      have hst:=rat_put hr9 HNE.out.2 HD9.out.2.2.1 HD9.out.2.1
      have q0:=ZF hr9 0
      have q1:=ZF hr9 1
      have q2:=ZF hr9 2
      have q3:=ZF hr9 3
      obtain ⟨z0,z1,z2,z3⟩:=cells4 (ZR _ wd) hk9
      obtain ⟨y0,y1,y2,y3⟩:=cells4 (ZR _ wd) hr9
      have HF:=ZH hst
      clear hst hk9 hr9
      go_wp2_with fail
      exact bodyPost_ret (v:=.tuple #[.agg #[.bool u1,.slice i1 j1 o1,.bool u2,.slice i2 j2 o2],.int .i64 0]) (by simp[results,Tryz.results49,go_sem,y0,y1,y2,y3]) rfl ⟨HF.out.below,.inl ⟨HUX.out,_,rfl,by rw[eval,HBA.out.2]; exact HF.out.rt⟩⟩
    ·have e2:(o==2)=false:=by simpa using h2
     by_cases h5:o=5
     ·subst h5
      have HFM:=ZH (show ∃a,x=.abs a from by
       have:=HN.out.2.2.2.2.2
       cases x with
       | abs a=>exact ⟨a,rfl⟩
       | _=>exact absurd this (by simp[opG]))
      obtain ⟨a,rfl⟩:=HFM.out
      clear HFM h2
      have hcb:evTo 5 rs (argG (.abs a)) (argG (.abs a)).length=eval rs a:=evTo_one 5 rs (l:=[a]) (by simp)
      rw[hcb,show 2+eszs (argG (.abs a))=esz (.abs a) by simp[argG,eszs,esz]; omega] at HRO9
      obtain ⟨z0,z1,z2,z3⟩:=cells4 (ZR _ wr) HKO9.out
      clear hcb
      go_wp2_with fail
      refine (ratAbs_any HRO9.out).mono ?_
      rintro e w5 ⟨v5,rfl,hr5,hb5⟩
      obtain ⟨u1,i1,j1,o1,u2,i2,j2,o2,rfl⟩:=rt_shape hr5
      clear z0 z1 z2 z3 x0 x1 x2 x3 x4
      have hko9:=(hb5.block bo (ZL HKO9.out)).trans HKO9.out
      have hkr9:=(hb5.block br (ZL HKX9.out.2)).trans HKX9.out.2
      have hst:=rat_put hko9 HNO.out.2.2 (HB9.out.trans (hb5.mono HB9.out.size)) hr5
      obtain ⟨e90,e91,e92,e93⟩:=cells4 (ZR _ w5) hko9
      obtain ⟨wd,hwd⟩:∃x,x=(((w5.setCell ⟨bo,0,none⟩ (.bool u1)).setCell ⟨bo,1,none⟩ (.slice i1 j1 o1)).setCell ⟨bo,2,none⟩ (.bool u2)).setCell ⟨bo,3,none⟩ (.slice i2 j2 o2):=⟨_,rfl⟩
      have f0:=ZF hko9 0
      have f1':=ZF hko9 1
      have f2':=ZF hko9 2
      have f3':=ZF hko9 3
      have hkd:=hst.block
      have hrd:=hst.rt
      have hbd:=hst.below
      have hrr:=(hst.but.block br HNO.out.2.1 (ZL hkr9)).trans hkr9
      rw[←hwd] at hkd hrd hbd hrr
      have HD9:=ZH (ZN hkd (ZN hrd (ZN hbd hrr)))
      clear hst hko9 hkd hrd hbd hrr hkr9
      clear hr5 hb5
      go_upto_region 19 with fail
      rw[←hwd]
      clear hwd f0 f1' f2' f3' e90 e91 e92 e93
      have hk9:=HD9.out.1
      have hr9:=HD9.out.2.2.2
      have hst:=rat_put hr9 HNE.out.2 HD9.out.2.2.1 HD9.out.2.1
      have q0:=ZF hr9 0
      have q1:=ZF hr9 1
      have q2:=ZF hr9 2
      have q3:=ZF hr9 3
      obtain ⟨z0,z1,z2,z3⟩:=cells4 (ZR _ wd) hk9
      obtain ⟨y0,y1,y2,y3⟩:=cells4 (ZR _ wd) hr9
      have HF:=ZH hst
      clear hst hk9 hr9
      go_wp2_with fail
      exact bodyPost_ret (v:=.tuple #[.agg #[.bool u1,.slice i1 j1 o1,.bool u2,.slice i2 j2 o2],.int .i64 0]) (by simp[results,Tryz.results49,go_sem,y0,y1,y2,y3]) rfl ⟨HF.out.below,.inl ⟨HUX.out,_,rfl,by rw[eval]; exact HF.out.rt⟩⟩
     ·have e5:(o==5)=false:=by simpa using h5
      have hcb:evTo o rs (argG x) (argG x).length=eval rs x:=by
       have h3:=HN.out.2.2.2.2.2
       rw[h3]
       exact ev_all (by rw[←h3]; exact HOP.out) (by rw[←h3]; exact h2) (by rw[←h3]; exact h5) rs
      have hsz:2+eszs (argG x)≤esz x:=evz_le (by rw[←HN.out.2.2.2.2.2]; exact HOP.out)
      rw[hcb] at HRO9
      have HROF:=ZH (HRO9.out.more hsz)
      clear h2 h5 hcb hsz HW9 HRO9
      go_upto_region 19 with fail
      clear x0 x1 x2 x3 x4
      have hk9:=HKO9.out
      have hr9:=HKX9.out.2
      have hst:=rat_put hr9 HNE.out.2 HB9.out HROF.out
      have f0:=ZF hr9 0
      have f1':=ZF hr9 1
      have f2':=ZF hr9 2
      have f3':=ZF hr9 3
      obtain ⟨z0,z1,z2,z3⟩:=cells4 (ZR _ wr) hk9
      obtain ⟨y0,y1,y2,y3⟩:=cells4 (ZR _ wr) hr9
      have HF:=ZH hst
      clear hst hk9 hr9
      go_wp2_with fail
      exact bodyPost_ret (v:=.tuple #[.agg #[.bool p1,.slice a1 c1 l1,.bool p2,.slice a2 c2 l2],.int .i64 0]) (by simp[results,Tryz.results49,go_sem,y0,y1,y2,y3]) rfl ⟨HF.out.below,.inl ⟨HUX.out,_,rfl,HF.out.rt⟩⟩
theorem mEvaluate_any {n:Nat} (hn:n≤900) {rs:List Rat} {K:Nat} (hK:2≤K∧K≤12):∀(m:Nat) (x:GEx),dep x≤m→EvFine n x→∀(w:World) (v:Value) (ar:Option Addr) (cr:Nat),Glob w→RatsAt w ar cr rs K→ExIn w (raw x) v→Calls Tryz.prog 49 #[v,.slice ar rs.length cr] w (EvPost w rs x)
 | 0,x,hm,_=>by cases x<;>rw[dep] at hm<;>omega
 | m+1,x,hm,hf=>fun w v ar cr hg hr hx=>mEvaluate_step hn hK x (fun j hj=>mEvaluate_any hn hK m _ (by have:=arg_dep hj; omega) (hf.arg hj)) hf hg hr hx
end Go.Proofs.YtdgimcmappmjdaaGreatDoor

