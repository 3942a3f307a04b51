/- dimension.Evaluate, with values that do not suffice. -/
import Derived.Test.YtdgimcmappmjdaaGreatDoorMBoundsM
import Derived.Test.YtdgimcmappmjdaaGreatDoorKS
set_option linter.unusedSimpArgs false
set_option linter.unusedVariables false
set_option maxRecDepth 100000
namespace Go.Proofs.YtdgimcmappmjdaaGreatDoor
open List renaming setIfInBounds_toArray → zLa, set_cons_zero → zLb, set_cons_succ → zLc
open FlowR renaming putSel → zFp
open Act renaming put → zAp
open Nat renaming zero_add → zNz
open Flow.Steps renaming cons → zSc, nil → zSn
open FlowR.Step renaming of → zSo
open Go.RowKit Go.Num Go.Flow
open Go.Gx (LF GEx mn mx ab eval evals dep Over)
set_option maxHeartbeats 8000000
set_option linter.unusedVariables false

def EvPost (w:World) (rs:List Rat) (x:GEx) (e:Ending) (w':World):Prop:=Below w.heap.size w w'∧((UptoG rs.length x∧∃v,e=.returned (.tuple #[v,.int .i64 0])∧RtIn w' v (eval rs x) (esz x))∨(¬UptoG rs.length x∧e=.returned (.tuple #[.agg #[.bool false,.slice none 0 0,.bool false,.slice none 0 0],.int .i64 13])))
structure EvFine (n:Nat) (x:GEx):Prop where
 over:Over n x
 lite:Lite x
 size:esz x≤100000
theorem EvFine.arg {n:Nat} {x:GEx} (h:EvFine n x) {j:Nat} (hj:j<(argG x).length):EvFine n ((argG x).getD j (.add [])):=by
 refine ⟨arg_over h.over hj,arg_lite h.lite hj,?_⟩
 have h1:=evz_le (x:=x) (by cases x<;>simp[opG,argG] at hj⊢)
 have h2:=eszs_take hj
 have h3:=eszs_le (l:=argG x) (k:=j+1)
 have h4:=h.size
 unfold evz at h1
 omega
theorem form_value {w:World} {x:GEx} {f:LF} (hfx:x=.form f) {n:Nat} (hn:n≤900) (hfi:EvFine n x) {rs:List Rat} {K:Nat} (hK:2≤K∧K≤12) (hg:Glob w) {ar:Option Addr} {cr:Nat} (hr:RatsAt w ar cr rs K) {tv:Value} (ht:TermsZ w tv (zTerms (formTexts f))) :
  Calls Tryz.prog 29 #[.agg #[.string ⟨(numText f.c).toArray⟩,tv],.slice ar rs.length cr] w (EvPost w rs x):=by
 subst hfx
 have ah:f.t.length=n:=by have:=hfi.over; rwa[Over] at this
 have af:=lite_form hfi.lite
 have ai:=fine_texts af ah
 have ac:=texts_len f
 have aa:FormAt w (.agg #[.string ⟨(numText f.c).toArray⟩,tv]) (numText f.c) (formTexts f):=⟨tv,rfl,TermsZ.nat ht⟩
 have ae:∀j,j<(formTexts f).length→(formTexts f).getD j (0,[])∈formTexts f:=fun j hj=>by
  rw[List.getD_eq_getElem?_getD,List.getElem?_eq_getElem hj]
  exact List.getElem_mem hj
 have hc:=(liteF_texts af).1
 have ag:readErr (numText f.c) 65536=0:=read_num_ok (by omega) (by omega)
 have hsz:=hfi.size
 rw[esz,ah] at hsz
 have hb:(60+2)+((formTexts f).length+1)*(60+K+3)≤900000:=by
  have:=Nat.mul_le_mul (show (formTexts f).length+1≤901 by omega) (show 60+K+3≤75 by omega)
  omega
 by_cases hu:Upto rs.length f
 ·have h:=mValue_any hg aa (by omega) hr hK.1 (S:=60) hc ag (by omega) (fun j hj=>⟨(upto_terms.1 hu) _ (ae j hj),(ai _ (ae j hj)).2⟩) hb
  refine h.mono ?_
  rintro e w' ⟨v,rfl,hv,ad⟩
  have e9:valueTo (numText f.c) (formTexts f) rs (formTexts f).length=eval rs (.form f):=by
   rw[eval]
   unfold valueTo
   rw[List.take_length,read_num]
   exact value_texts fun i hi=>hu i hi
  rw[e9] at hv
  exact ⟨ad,.inl ⟨by rw[UptoG]; exact hu,v,rfl,hv.more (by
   rw[esz]
   have:=Nat.mul_le_mul (show (formTexts f).length≤f.t.length from ac) (show 60+K+3≤75 by omega)
   omega)⟩⟩
 ·have h:=mValue_short hg aa (by omega) hr hK.1 (S:=60) hc ag (by omega) (upto_short hu) (fun j hj=>(ai _ (ae j hj)).2) hb
  refine h.mono ?_
  rintro e w' ⟨rfl,ad⟩
  exact ⟨ad,.inr ⟨by rw[UptoG]; exact hu,rfl⟩⟩
theorem ev_all {x:GEx} (h0:opG x≠0) (h2:opG x≠2) (h5:opG x≠5) (rs:List Rat):evTo (opG x) rs (argG x) (argG x).length=eval rs x:=by
 cases x with
 | form f=>exact absurd rfl h0
 | scale q a=>exact absurd rfl h2
 | abs a=>exact absurd rfl h5
 | add l=>exact ev_add _ _
 | min l=>exact ev_min _ _
 | max l=>exact ev_max _ _
theorem factor_text {n:Nat} {q:Rat} {a:GEx} (hfi:EvFine n (.scale q a)):(numText q).length≤60:=by
 obtain ⟨h1,h2⟩:=hfi.lite
 have h3:=hfi.over
 rw[Go.Gx.Den] at h1
 rw[Go.Gx.wt] at h2
 rw[Over] at h3
 obtain ⟨d,r,e,h4,-⟩:=h1
 have h5:=Go.Gx.one_wt h3
 have h6:=Go.Gx.big_ab q
 have h7:=Go.Gx.big_one q
 refine (lite_num (r:=q) ?_ ?_).1
 ·have:=Go.Gx.m2_more h4 (20-d)
  rwa[show 20-d+d=20 by omega] at this
 ·have h8:Go.Gx.big q*1≤Go.Gx.big q*Go.Gx.wt a:=Rat.mul_le_mul_of_nonneg_left h5 (by grind)
  rw[Rat.mul_one] at h8
  exact Rat.le_trans h6 (Rat.le_trans h8 h2)
theorem eszs_len : ∀l:List GEx,l.length≤eszs l
 | []=>by simp
 | a::l=>by rw[eszs,List.length_cons]; have:=eszs_len l; omega
theorem mEvaluate_step {n:Nat} (hn:n≤900) {rs:List Rat} {K:Nat} (hK:2≤K∧K≤12) (x:GEx)
  (ih:∀j,j<(argG x).length→∀(w:World) (v:Value) (ar:Option Addr) (cr:Nat),Glob w→RatsAt w ar cr rs K→ExIn w (raw ((argG x).getD j (.add []))) v→Calls Tryz.prog 49 #[v,.slice ar rs.length cr] w (EvPost w rs ((argG x).getD j (.add []))))
  (hfi:EvFine n x) {w:World} {v:Value} {ar:Option Addr} {cr:Nat} (hg:Glob w) (hr:RatsAt w ar cr rs K) (hx:ExIn w (raw x) v):Calls Tryz.prog 49 #[v,.slice ar rs.length cr] w (EvPost w rs x):=by
 obtain ⟨tv,aa,ac,rfl,bH,ba⟩:=hx.out
 rw[raw_args] at ba⊢
 rw[raws_len] at ba⊢
 obtain ⟨ta,tc,rfl,-⟩:=id bH
 obtain ⟨s0,a7⟩:∃s:ByteArray,s=⟨(raw x).c.toArray⟩:=⟨_,rfl⟩
 obtain ⟨s1,aX⟩:∃s:ByteArray,s=⟨(raw x).f.toArray⟩:=⟨_,rfl⟩
 obtain ⟨tn,bI⟩:∃x',x'=(raw x).t.length:=⟨_,rfl⟩
 obtain ⟨an,bh⟩:∃x',x'=(argG x).length:=⟨_,rfl⟩
 obtain ⟨nr,bU⟩:∃x',x'=rs.length:=⟨_,rfl⟩
 obtain ⟨o,ho⟩:∃x',x'=(raw x).op:=⟨_,rfl⟩
 rw[←a7,←aX,←bI,←bh,←ho,←bU]
 unfold EvPost
 rw[←bI] at bH
 rw[←bh] at ba
 have ch:o=opG x:=by rw[ho,raw_op]
 obtain ⟨wa,bx,br,b5,b6,b8,b2,k0,k1⟩:=new_two w #[.int .i64 o,.string s0,.slice ta tn tc,.string s1,.slice aa an ac] #[.bool false,.slice none 0 0,.bool false,.slice none 0 0] 63 43
 have hcap:an≤ac∧ac≤9223372036854775807:=by
  obtain ⟨_,_,e,h1,h2,-⟩:=ba
  simp only[Value.slice.injEq] at e
  obtain ⟨-,-,rfl⟩:=e
  rw[raws_len,←bh] at h1
  exact ⟨h1,h2⟩
 have HG:=ZH hg
 have HD:=ZH hr
 have bd:=ZH hfi
 have HTZ:=ZH bH
 have HAX:=ZH ba
 have HIH:=ZH ih
 have aq:=ZH b2
 have HK:=ZH (ZN k0 k1)
 have a5:=ZH (show bx≠br∧w.heap.size≤br by omega)
 have HN:=ZH (ZN bh (ZN bU (ZN a7 (ZN aX (ZN bI ch)))))
 have HW:=ZH (ZN b5 (ZN b6 b8))
 have HKK:=ZH hK
 obtain ⟨x0,x1,x2,x3,x4⟩:=cells5 (ZR _ wa) k0
 clear b5 b6 b8 b2 hg hr hfi bH ba ih a7 aX bI hx ho bh bU ch k0 k1 hK
 by_cases hop:o=0
 ·-- a form
  subst hop
  have aI:=ZH (show ∃f,x=.form f from by
   have:=HN.out.2.2.2.2.2
   cases x with
   | form f=>exact ⟨f,rfl⟩
   | _=>exact absurd this (by simp[opG]))
  obtain ⟨f,hf⟩:=aI.out
  have aB:=form_value hf hn bd.out HKK.out (HG.out.below aq.out) (HD.out.below aq.out) (tv:=.slice ta tn tc) (by
   have h:=HTZ.out.below aq.out
   rw[hf,raw] at h
   exact h)
  have a7:s0=⟨(numText f.c).toArray⟩:=by rw[HN.out.2.2.1,hf,raw]; rfl
  rw[←HN.out.2.1,←a7] at aB
  unfold EvPost at aB
  have bQ:=ZH aB
  clear aI hf aB a7
  go_enter Tryz.func49,Tryz.ntmps49
  go_upto_region 1 with fail
  rw[←HW.out.1,←HW.out.2.2,←HW.out.2.1]
  clear HW
  go_wp2_with fail
  refine bQ.out.mono ?_
  rintro e w1 ⟨bm,hc⟩
  have ao:=(bm.block br (ZL HK.out.2)).trans HK.out.2
  obtain ⟨f0,aF,aE,aH⟩:=free4 ao
  rcases hc with ⟨hu,v1,rfl,hv⟩ | ⟨hu,rfl⟩
  ·obtain ⟨p1,g1,f1,n1,p2,g2,f2,n2,rfl⟩:=rt_shape hv
   obtain ⟨y0,y1,y2,y3⟩:=cells4 (ZR _ w1) ao
   have ad:=rat_put ao a5.out.2 (aq.out.trans (bm.mono aq.out.size)) hv
   have HF:=ZH (ZN ad hu)
   clear ao ad hv hu bm bQ
   go_wp2_with fail
   exact bodyPost_ret (v:=.tuple #[.agg #[.bool p1,.slice g1 f1 n1,.bool p2,.slice g2 f2 n2],.int .i64 0]) (by simp[results,Tryz.results49,go_sem,y0,y1,y2,y3]) rfl ⟨HF.out.1.below,.inl ⟨HF.out.2,_,rfl,HF.out.1.rt⟩⟩
  ·obtain ⟨y0,y1,y2,y3⟩:=cells4 (ZR _ w1) ao
   have ad:=rat_put ao a5.out.2 (aq.out.trans (bm.mono aq.out.size)) (zero_rt w1 2)
   have HF:=ZH (ZN ad hu)
   clear ao ad hu bm bQ
   go_wp2_with fail
   exact bodyPost_ret (v:=.tuple #[.agg #[.bool false,.slice none 0 0,.bool false,.slice none 0 0],.int .i64 13]) (by simp[results,Tryz.results49,go_sem,y0,y1,y2,y3]) rfl ⟨HF.out.1.below,.inr ⟨HF.out.2,rfl⟩⟩
 ·have e0:(o==0)=false:=by simpa using hop
  have bq:=ZH hop
  clear hop
  have hn1:an≤100000:=by
   have h1:=bd.out.size
   have h2:=evz_le (x:=x) (by rw[←HN.out.2.2.2.2.2]; exact bq.out)
   have h4:=eszs_len (argG x)
   unfold evz at h2
   have:=HN.out.1
   omega
  go_enter Tryz.func49,Tryz.ntmps49
  go_upto_region 1 with fail
  rw[←HW.out.1,←HW.out.2.2,←HW.out.2.1]
  clear HW
  go_upto_region 4 with fail
  clear x0 x1 x2 x3 x4
  obtain ⟨wb,bo,b4,cf,bE,kb⟩:=new_box wa #[.bool false,.slice none 0 0,.bool false,.slice none 0 0] 43
  rw[←b4,←cf]
  have HB0:=ZH (aq.out.trans (bE.mono aq.out.size))
  have bA:=ZH (ZN ((bE.block bx (ZL HK.out.1)).trans HK.out.1) (ZN ((bE.block br (ZL HK.out.2)).trans HK.out.2) kb))
  have az:=ZH (show bx≠bo∧br≠bo∧w.heap.size≤bo from by
   have h1:=ZL HK.out.1
   have h2:=ZL HK.out.2
   have h3:=aq.out.size
   omega)
  clear b4 cf bE kb HK aq
  obtain ⟨x0,x1,x2,x3,x4⟩:=cells5 (ZR _ wb) bA.out.1
  go_wp2_with fail
  clear x0 x1 x2 x3 x4
  go_loopg [23] an (fun gk i wr=>∃k:Nat,k+gk=an∧i=.int .i64 k∧Hid (∃s1 a1 c1 l1 s2 a2 c2 l2,wr.heap[bo]?=some (.cells #[.bool s1,.slice a1 c1 l1,.bool s2,.slice a2 c2 l2] 43 (0,0))∧RtIn wr (.agg #[.bool s1,.slice a1 c1 l1,.bool s2,.slice a2 c2 l2]) (evTo o rs (argG x) k) (2+eszs ((argG x).take k)))∧Hid (wr.heap[bx]?=some (.cells #[.int .i64 o,.string s0,.slice ta tn tc,.string s1,.slice aa an ac] 63 (0,0))∧wr.heap[br]?=some (.cells #[.bool false,.slice none 0 0,.bool false,.slice none 0 0] 43 (0,0)))∧Hid (∀j,j<k→UptoG rs.length ((argG x).getD j (.add [])))∧Hid (Below w.heap.size w wr))
  case atStart=>exact ⟨0,by omega,rfl,ZH ⟨_,_,_,_,_,_,_,_,bA.out.2.2,zero_rt _ _⟩,ZH ⟨bA.out.1,bA.out.2.1⟩,ZH (fun j hj=>by omega),HB0⟩
  case round=>
   obtain ⟨k,hk,rfl,aN,bC,bz,ay⟩:=hrel
   obtain ⟨p1,a1,c1,l1,p2,a2,c2,l2,bw,bg⟩:=aN.out
   by_cases hlt:k<an
   ·have e1:((k:Int)<(an:Int))=True:=eq_true (by omega)
    obtain ⟨_,_,he,-,-,b9⟩:=HAX.out
    simp only[Value.slice.injEq] at he
    obtain ⟨rfl,-,rfl⟩:=he
    obtain ⟨g,og,rfl,-,cd⟩:=b9 (by rw[raws_len,←HN.out.1]; omega)
    have aK:k<(argG x).length:=by rw[←HN.out.1]; exact hlt
    obtain ⟨utv,ua,uc,c0,bf,bS,c3,c4,bj,bD⟩:=cd.at (j:=k) (by rw[raws_len]; exact aK)
    rw[raws_at aK] at c0 bf c3 c4 bj bD
    have aV:=HIH.out k aK
    have bM:=bd.out.arg aK
    have bk:=fun (h0:k=0)=>evTo_one o rs (l:=argG x) (by omega)
    have bt:=fun (h0:0<k)=>evTo_succ o rs aK h0
    have aT:=eszs_take aK
    have bL:=fun (h:UptoG rs.length x)=>arg_upto h aK
    obtain ⟨y,hy⟩:∃y,y=(argG x).getD k (.add []):=⟨_,rfl⟩
    rw[←hy] at c0 bf c3 c4 bj bD aV bM aT bL
    have bb:evTo o rs (argG x) (k+1)=if k=0 then eval rs y else fop o (evTo o rs (argG x) k) (eval rs y):=by
     by_cases h0:k=0
     ·rw[if_pos h0,hy,h0]
      exact bk h0
     ·rw[if_neg h0,hy]
      exact bt (by omega)
    clear bk bt
    obtain ⟨uta,utc,rfl,-⟩:=id bj
    obtain ⟨uo,bV⟩:∃q,q=(raw y).op:=⟨_,rfl⟩
    obtain ⟨us0,aU⟩:∃s:ByteArray,s=⟨(raw y).c.toArray⟩:=⟨_,rfl⟩
    obtain ⟨us1,aM⟩:∃s:ByteArray,s=⟨(raw y).f.toArray⟩:=⟨_,rfl⟩
    obtain ⟨utn,a3⟩:∃q,q=(raw y).t.length:=⟨_,rfl⟩
    obtain ⟨uan,aY⟩:∃q,q=(raw y).a.length:=⟨_,rfl⟩
    have bX:=ExIn.of bj bD
    rw[←bV,←aU,←aM,←a3,←aY] at bX
    rw[←bV] at c0
    rw[←aU] at bf
    rw[←a3] at bS
    rw[←aM] at c3
    rw[←aY] at c4
    have x0:=ZJ ay.out c0
    have x1:=ZJ ay.out bf
    have x2:=ZJ ay.out bS
    have x3:=ZJ ay.out c3
    have x4:=ZJ ay.out c4
    have HY:=ZH (ZN bX bM)
    have ca:=ZH (show ∀(w:World) (v:Value) (ar:Option Addr) (cr:Nat),Glob w→RatsAt w ar cr rs K→ExIn w (raw y) v→Calls Tryz.prog 49 #[v,.slice ar nr cr] w (EvPost w rs y) from by rw[HN.out.2.1]; exact aV)
    have aQ:=ZH (ZN hlt (ZN bb aT))
    have bB:=ZH (ZN bL (show UptoG rs.length y→∀j,j<k+1→UptoG rs.length ((argG x).getD j (.add [])) from fun h j hj=>by
     rcases Nat.lt_or_eq_of_le (Nat.le_of_lt_succ hj) with h9 | h9
     ·exact bz.out j h9
     ·rw[h9,←hy]; exact h))
    have bs:=ZH bC.out
    have b0:=ZH bw
    have bG:=ZH bg
    have hk0:(0:Int)≤(k:Int):=by omega
    have ao:(k:Int)<(an:Int):=by omega
    obtain ⟨va,cj⟩:∃q,q=evTo o rs (argG x) k:=⟨_,rfl⟩
    rw[←cj] at bG aQ
    obtain ⟨K0,cc⟩:∃q,q=2+eszs ((argG x).take k):=⟨_,rfl⟩
    rw[←cc] at bG
    have bn:=ZH (show K0+esz y+1≤100000∧2+eszs ((argG x).take (k+1))=K0+esz y+1∧2≤K0∧2≤esz y by
     have h1:=bd.out.size
     have h2:=evz_le (x:=x) (by rw[←HN.out.2.2.2.2.2]; exact bq.out)
     have h3:=eszs_le (l:=argG x) (k:=k+1)
     have h4:=esz_two y
     unfold evz at h2
     omega)
    clear b9 cd c0 bf bS c3 c4 bj bD aV bM aT hy bb bV aU aM a3 aY bX hlt bC bw bg aN cj cc aK bL bz
    go_upto_region 7 with fail
    obtain ⟨w4,by',ci,b3,a9,ky⟩:=new_box wr #[.int .i64 uo,.string us0,.slice uta utn utc,.string us1,.slice ua uan uc] 63
    rw[←ci,←b3]
    have aJ:=ZH (ay.out.trans (a9.mono ay.out.size))
    have al:=ZH (ZN ((a9.block bx (ZL bs.out.1)).trans bs.out.1) ((a9.block br (ZL bs.out.2)).trans bs.out.2))
    have aP:=ZH ((a9.block bo (ZL b0.out)).trans b0.out)
    have be:=ZH (bG.out.below a9)
    obtain ⟨y0,y1,y2,y3,y4⟩:=cells5 (ZR _ w4) ky
    have ax:=ca.out _ _ _ _ (HG.out.below aJ.out) (HD.out.below aJ.out) (HY.out.1.below aJ.out)
    unfold EvPost at ax
    have bT:=ZH ax
    clear ci b3 a9 ky x0 x1 x2 x3 x4 hk0 ao bs b0 bG ay ax ca
    go_wp2_with fail
    refine bT.out.mono ?_
    rintro e w5 ⟨aC,hc⟩
    rcases hc with ⟨hu,v1,rfl,hv⟩ | ⟨hu,rfl⟩
    ·obtain ⟨q1,g1,i1,j1,q2,g2,i2,j2,rfl⟩:=rt_shape hv
     have cb:=ZH hv
     have bu:=ZH (bB.out.2 hu)
     have bc:=ZH aC
     clear hv hu aC y0 y1 y2 y3 y4 bT bB
     go_upto_region 8 with fail
     obtain ⟨w6,bv,bl,bi,a6,kv⟩:=new_box w5 #[.bool q1,.slice g1 i1 j1,.bool q2,.slice g2 i2 j2] 43
     rw[←bl,←bi]
     have aA:=bc.out.trans (a6.mono bc.out.size)
     have bN:=ZH (aJ.out.trans (aA.mono aJ.out.size))
     have af:=ZH (ZN ((aA.block bx (ZL al.out.1)).trans al.out.1) ((aA.block br (ZL al.out.2)).trans al.out.2))
     have ap:=ZH ((aA.block bo (ZL aP.out)).trans aP.out)
     have bK:=ZH (be.out.below aA)
     have bF:=ZH (ZN kv (cb.out.below a6))
     have a8:=ZH (ZR w6.heap.size w6)
     clear bl bi a6 kv aA aJ al aP be cb bc
     go_upto_region 10 with fail
     by_cases h0:k=0
     ·subst h0
      go_upto_region 11 with fail
      have ad:=rat_put ap.out az.out.2.2 bN.out bF.out.2
      obtain ⟨o0,o1,o2,o3⟩:=cells4 (ZR _ w6) ap.out
      obtain ⟨f0,aF,aE,aH⟩:=free4 ap.out
      obtain ⟨z0,z1,z2,z3⟩:=cells4 (ZR _ w6) bF.out.1
      have au:=(ad.but.block bx az.out.1 (ZL af.out.1)).trans af.out.1
      have aw:=(ad.but.block br az.out.2.1 (ZL af.out.2)).trans af.out.2
      have HF:=ZH (ZN ad (ZN au aw))
      clear ad au aw
      go_wp2_with fail
      go_roundg (an-(0+1))
      case measure=>have:=aQ.out.1; omega
      case rel=>exact ⟨0+1,by have:=aQ.out.1; omega,by congr 1,ZH ⟨_,_,_,_,_,_,_,_,HF.out.1.1,by rw[aQ.out.2.1,if_pos trivial,bn.out.2.1]; exact HF.out.1.rt.more (by omega)⟩,ZH ⟨HF.out.2.1,HF.out.2.2⟩,bu,ZH HF.out.1.below⟩
     ·have e2:((k:Int)==0)=false:=by simp; omega
      have bb:=aQ.out.2.1
      rw[if_neg h0] at bb
      have HCK:=ZH bb
      clear h0 bb
      go_upto_region 12 with fail
      refine FlowR.wp_region_sel (fun a b=>Below a.heap.size a b) (fun a=>ZR _ a) (fun _ _ _ h k=>h.trans (k.mono h.size)) [0,1,2,3,4,5] [false,false,false,false,false,false,false] [true,true,true,true,true,true,false] (fun i9 v w'=>match i9 with
       | 0=>v=.pointer (some ⟨bx,0,none⟩)
       | 1=>v=.int .i64 o
       | 2=>v=.func (.func (pickF o)) #[] #[]
       | 3=>v=.agg #[.bool p1,.slice a1 c1 l1,.bool p2,.slice a2 c2 l2]
       | 4=>v=.agg #[.bool q1,.slice g1 i1 j1,.bool q2,.slice g2 i2 j2]
       | _=>RtIn w' v (fop o va (eval rs y)) (K0+esz y+1)) rfl rfl (by kernel_rfl) (by kernel_rfl) (by kernel_rfl) (by kernel_rfl) ?st ?_ ?_
      case st=>
       intro i9 v u1 u2 h hb
       match i9 with
       | 0 | 1 | 2 | 3 | 4=>exact h
       | 5 | _+6=>exact RtIn.below h hb
      refine zSc (zSo rfl ?s0) (zSc (zSo rfl ?s1) (zSc (zSo rfl ?s2) (zSc (zSo rfl ?s3) (zSc (zSo rfl ?s4) (zSc (zSo rfl ?s5) zSn)))))
      case s0=>
       intro xs w' hb hT K9 ae
       clear hT
       simp only[zFp,zAp,zLa,zLb,zLc,Nat.reduceAdd,zNz] at ae⊢
       have hw:=Flow.hwD a8.out hb
       go_simp
       exact ae _ _ (ZR _ _) rfl
      case s1=>
       intro xs w' hb hT K9 ae
       have h0:(xs 0)=.pointer (some ⟨bx,0,none⟩):=hT 0 (by kernel_rfl)
       clear hT
       simp only[zFp,zAp,zLa,zLb,zLc,Nat.reduceAdd,zNz] at ae⊢
       have hw:=Flow.hwD a8.out hb
       have kb:=(hw.block bx (ZL af.out.1)).trans af.out.1
       have y0:=ZI kb 0
       clear kb
       simp at y0
       (try simp only[h0] at ae)
       go_simp
       exact ae _ _ (ZR _ _) rfl
      case s2=>
       intro xs w' hb hT K9 ae
       have h1:(xs 1)=.int .i64 o:=hT 1 (by kernel_rfl)
       clear hT
       simp only[zFp,zAp,zLa,zLb,zLc,Nat.reduceAdd,zNz] at ae⊢
       have hw:=Flow.hwD a8.out hb
       (try simp only[h1] at ae)
       go_simp
       go_at_call 72
       refine (mpick_any o).mono ?_
       rintro e w3 ⟨rfl,aR⟩
       exact ae _ _ aR rfl
      case s3 | s4=>
       intro xs w' hb hT K9 ae
       clear hT
       simp only[zFp,zAp,zLa,zLb,zLc,Nat.reduceAdd,zNz] at ae⊢
       have hw:=Flow.hwD a8.out hb
       obtain ⟨y0,y1,y2,y3⟩:=cells4 hw ap.out
       obtain ⟨z0,z1,z2,z3⟩:=cells4 hw bF.out.1
       go_simp
       exact ae _ _ (ZR _ _) rfl
      case s5=>
       intro xs w' hb hT K9 ae
       have h2:(xs 2)=.func (.func (pickF o)) #[] #[]:=hT 2 (by kernel_rfl)
       have h3:(xs 3)=.agg #[.bool p1,.slice a1 c1 l1,.bool p2,.slice a2 c2 l2]:=hT 3 (by kernel_rfl)
       have h4:(xs 4)=.agg #[.bool q1,.slice g1 i1 j1,.bool q2,.slice g2 i2 j2]:=hT 4 (by kernel_rfl)
       clear hT
       simp only[zFp,zAp,zLa,zLb,zLc,Nat.reduceAdd,zNz] at ae⊢
       have hw:=Flow.hwD a8.out hb
       (try simp only[h2] at ae)
       (try simp only[h3] at ae)
       (try simp only[h4] at ae)
       have he:=enters_pick o
       go_simp
       refine (pick_any (o:=o) (bK.out.below hw) (bF.out.2.below hw) bn.out.2.2.1 bn.out.2.2.2 (by have:=bn.out; omega)).mono ?_
       rintro e w3 ⟨v3,rfl,bp,aR⟩
       exact ae _ _ aR bp
      intro xs w' hb hT
      have hw:=Flow.hwD a8.out hb
      have h5:RtIn w' (xs 5) (fop o va (eval rs y)) (K0+esz y+1):=hT 5 (by rfl)
      clear hT
      simp only[zFp,zAp,zLa,zLb,zLc,Nat.reduceAdd,zNz,FlowR.restL,FlowR.orM,Bool.false_or]
      obtain ⟨p1',g7,i7,j7,p2',g8,i8,j8,e5⟩:=rt_shape h5
      rw[e5] at h5
      simp only[e5]
      clear e5
      have k9:=(hw.block bo (ZL ap.out)).trans ap.out
      have ad:=rat_put k9 az.out.2.2 (bN.out.trans (hw.mono bN.out.size)) h5
      obtain ⟨o0,o1,o2,o3⟩:=cells4 (ZR _ w') k9
      obtain ⟨f0,aF,aE,aH⟩:=free4 k9
      have bY:=(hw.block bx (ZL af.out.1)).trans af.out.1
      have ah:=(hw.block br (ZL af.out.2)).trans af.out.2
      have au:=(ad.but.block bx az.out.1 (ZL bY)).trans bY
      have aw:=(ad.but.block br az.out.2.1 (ZL ah)).trans ah
      have HF:=ZH (ZN ad (ZN au aw))
      clear ad au aw bY ah k9 h5 hb hw
      go_wp2_with fail
      go_roundg (an-(k+1))
      case measure=>have:=aQ.out.1; omega
      case rel=>exact ⟨k+1,by have:=aQ.out.1; omega,by congr 1,ZH ⟨_,_,_,_,_,_,_,_,HF.out.1.1,by rw[HCK.out,bn.out.2.1]; exact HF.out.1.rt⟩,ZH ⟨HF.out.2.1,HF.out.2.2⟩,bu,ZH HF.out.1.below⟩
    ·have bu:=ZH (show ¬UptoG rs.length x from fun h=>hu (bB.out.1 h))
     have bc:=ZH aC
     clear hu aC y0 y1 y2 y3 y4 bT bB
     go_upto_region 8 with fail
     obtain ⟨w6,bv,bl,bi,a6,kv⟩:=new_box w5 #[.bool false,.slice none 0 0,.bool false,.slice none 0 0] 43
     rw[←bl,←bi]
     have aA:=bc.out.trans (a6.mono bc.out.size)
     have ao:=(aA.block br (ZL al.out.2)).trans al.out.2
     have ad:=rat_put ao a5.out.2 (aJ.out.trans (aA.mono aJ.out.size)) (zero_rt w6 2)
     obtain ⟨f0,aF,aE,aH⟩:=free4 ao
     obtain ⟨y0,y1,y2,y3⟩:=cells4 (ZR _ w6) ao
     have HF:=ZH ad
     clear bl bi a6 kv aA ao ad
     go_wp2_with fail
     exact bodyPost_ret (v:=.tuple #[.agg #[.bool false,.slice none 0 0,.bool false,.slice none 0 0],.int .i64 13]) (by simp[results,Tryz.results49,go_sem,y0,y1,y2,y3]) rfl ⟨HF.out.below,.inr ⟨bu.out,rfl⟩⟩
   ·have e1:((k:Int)<(an:Int))=False:=eq_false (by omega)
    obtain rfl:k=an:=by omega
    have ai:=ZH bC.out
    have aj:=ZH bw
    rw[HN.out.1,List.take_length] at bg
    have am:=ZH bg
    have aS:=ZH ay.out
    have bZ:=ZH (show UptoG rs.length x from arg_upto_of (by rw[←HN.out.2.2.2.2.2]; exact bq.out) (fun j hj=>bz.out j (by rw[HN.out.1]; exact hj)))
    have a0:=ZH (ZR wr.heap.size wr)
    clear aN bC bw bg ay bz
    obtain ⟨x0,x1,x2,x3,x4⟩:=cells5 (ZR _ wr) ai.out.1
    by_cases h2:o=2
    ·subst h2
     have aI:=ZH (show ∃q a,x=.scale q a from by
      have:=HN.out.2.2.2.2.2
      cases x with
      | scale q a=>exact ⟨q,a,rfl⟩
      | _=>exact absurd this (by simp[opG]))
     obtain ⟨q,a,rfl⟩:=aI.out
     clear aI
     have cg:=factor_text bd.out
     have aX:s1.data.toList=numText q:=by rw[HN.out.2.2.2.1,raw]; rfl
     have av:=fun (W:World) (hW:Below w.heap.size w W)=>mread_any s1 (w:=W) (by
      have h1:s1.size=(numText q).length:=by rw[HN.out.2.2.2.1,raw]; simp[ByteArray.size,Ex.f]
      omega) (HG.out.below hW) (by rw[aX]; exact read_num_ok (by omega) (by omega))
     rw[aX,read_num] at av
     have HRD:=ZH av
     have HQ:=ZH cg
     have aG:evTo 2 rs (argG (.scale q a)) (argG (.scale q a)).length=eval rs a:=evTo_one 2 rs (l:=[a]) (by simp)
     rw[aG,show 2+eszs (argG (.scale q a))=esz a+3 by simp[argG,eszs]; omega] at am
     have b7:=ZH (show esz a≤100000∧esz (.scale q a)=62+(esz a+3) by
      have:=bd.out.size
      rw[esz] at this⊢
      omega)
     clear cg aX av aG
     go_upto_region 16 with fail
     refine FlowR.wp_region_sel (fun a b=>Below a.heap.size a b) (fun a=>ZR _ a) (fun _ _ _ h k=>h.trans (k.mono h.size)) [0,1,2,3,4] [false,false,false,false,false,false] [true,true,true,true,true,false] (fun i9 v w'=>match i9 with
      | 0=>v=.pointer (some ⟨bx,3,none⟩)
      | 1=>v=.string s1
      | 2=>RtIn w' v q 62
      | 3=>v=.agg #[.bool p1,.slice a1 c1 l1,.bool p2,.slice a2 c2 l2]
      | _=>RtIn w' v (q*eval rs a) (62+(esz a+3))) rfl rfl (by kernel_rfl) (by kernel_rfl) (by kernel_rfl) (by kernel_rfl) ?st ?_ ?_
     case st=>
      intro i9 v u1 u2 h hb
      match i9 with
      | 0 | 1 | 3=>exact h
      | 2 | 4 | _+5=>exact RtIn.below h hb
     refine zSc (zSo rfl ?s0) (zSc (zSo rfl ?s1) (zSc (zSo rfl ?s2) (zSc (zSo rfl ?s3) (zSc (zSo rfl ?s4) zSn))))
     case s0=>
      intro xs w' hb hT K9 ae
      clear hT
      simp only[zFp,zAp,zLa,zLb,zLc,Nat.reduceAdd,zNz] at ae⊢
      have hw:=Flow.hwD a0.out hb
      go_simp
      exact ae _ _ (ZR _ _) rfl
     case s1=>
      intro xs w' hb hT K9 ae
      have h0:(xs 0)=.pointer (some ⟨bx,3,none⟩):=hT 0 (by kernel_rfl)
      clear hT
      simp only[zFp,zAp,zLa,zLb,zLc,Nat.reduceAdd,zNz] at ae⊢
      have hw:=Flow.hwD a0.out hb
      have kb:=(hw.block bx (ZL ai.out.1)).trans ai.out.1
      have y0:=ZI kb 3
      clear kb
      simp at y0
      (try simp only[h0] at ae)
      go_simp
      exact ae _ _ (ZR _ _) rfl
     case s2=>
      intro xs w' hb hT K9 ae
      have h1:(xs 1)=.string s1:=hT 1 (by kernel_rfl)
      clear hT
      simp only[zFp,zAp,zLa,zLb,zLc,Nat.reduceAdd,zNz] at ae⊢
      have hw:=Flow.hwD a0.out hb
      (try simp only[h1] at ae)
      go_simp
      go_at_call 73
      refine (HRD.out w' (aS.out.trans (hw.mono aS.out.size))).mono ?_
      rintro e w3 ⟨v3,rfl,bp,aR⟩
      exact ae _ _ aR (bp.more (by have:=HQ.out; omega))
     case s3=>
      intro xs w' hb hT K9 ae
      clear hT
      simp only[zFp,zAp,zLa,zLb,zLc,Nat.reduceAdd,zNz] at ae⊢
      have hw:=Flow.hwD a0.out hb
      obtain ⟨y0,y1,y2,y3⟩:=cells4 hw aj.out
      go_simp
      exact ae _ _ (ZR _ _) rfl
     case s4=>
      intro xs w' hb hT K9 ae
      have h2:RtIn w' (xs 2) q 62:=hT 2 (by kernel_rfl)
      have h3:(xs 3)=.agg #[.bool p1,.slice a1 c1 l1,.bool p2,.slice a2 c2 l2]:=hT 3 (by kernel_rfl)
      clear hT
      simp only[zFp,zAp,zLa,zLb,zLc,Nat.reduceAdd,zNz] at ae⊢
      have hw:=Flow.hwD a0.out hb
      (try simp only[h3] at ae)
      go_simp
      go_at_call 74
      refine (ratMul_any h2 (am.out.below hw) (by omega) (by omega) (by have:=b7.out; omega)).mono ?_
      rintro e w3 ⟨v3,rfl,bp,aR⟩
      exact ae _ _ aR bp
     intro xs w' hb hT
     have hw:=Flow.hwD a0.out hb
     have h4:RtIn w' (xs 4) (q*eval rs a) (62+(esz a+3)):=hT 4 (by rfl)
     clear hT
     simp only[zFp,zAp,zLa,zLb,zLc,Nat.reduceAdd,zNz,FlowR.restL,FlowR.orM,Bool.false_or]
     obtain ⟨u1,i1,j1,o1,u2,i2,j2,o2,e5⟩:=rt_shape h4
     rw[e5] at h4
     simp only[e5]
     clear e5
     have ag:=(hw.block bo (ZL aj.out)).trans aj.out
     have ak:=(hw.block br (ZL ai.out.2)).trans ai.out.2
     have ad:=rat_put ag az.out.2.2 (aS.out.trans (hw.mono aS.out.size)) h4
     obtain ⟨b1,bW,bJ,bO⟩:=cells4 (ZR _ w') ag
     obtain ⟨wd,aZ⟩:∃x,x=(((w'.setCell ⟨bo,0,none⟩ (.bool u1)).setCell ⟨bo,1,none⟩ (.slice i1 j1 o1)).setCell ⟨bo,2,none⟩ (.bool u2)).setCell ⟨bo,3,none⟩ (.slice i2 j2 o2):=⟨_,rfl⟩
     obtain ⟨f0,aF,aE,aH⟩:=free4 ag
     have aW:=ad.block
     have av:=ad.rt
     have aO:=ad.below
     have a4:=(ad.but.block br az.out.2.1 (ZL ak)).trans ak
     rw[←aZ] at aW av aO a4
     have aD:=ZH (ZN aW (ZN av (ZN aO a4)))
     clear ad ag aW av aO a4 ak
     clear h4 hb hw x0 x1 x2 x3 x4
     go_upto_region 19 with fail
     rw[←aZ]
     clear aZ f0 aF aE aH b1 bW bJ bO
     have aL:=aD.out.1
     have ah:=aD.out.2.2.2
     have ad:=rat_put ah a5.out.2 aD.out.2.2.1 aD.out.2.1
     obtain ⟨q0,q1,q2,q3⟩:=free4 ah
     obtain ⟨z0,z1,z2,z3⟩:=cells4 (ZR _ wd) aL
     obtain ⟨y0,y1,y2,y3⟩:=cells4 (ZR _ wd) ah
     have HF:=ZH ad
     clear ad aL ah
     go_wp2_with fail
     exact bodyPost_ret (v:=.tuple #[.agg #[.bool u1,.slice i1 j1 o1,.bool u2,.slice i2 j2 o2],.int .i64 0]) (by simp[results,Tryz.results49,go_sem,y0,y1,y2,y3]) rfl ⟨HF.out.below,.inl ⟨bZ.out,_,rfl,by rw[eval,b7.out.2]; exact HF.out.rt⟩⟩
    ·have e2:(o==2)=false:=by simpa using h2
     by_cases h5:o=5
     ·subst h5
      have aI:=ZH (show ∃a,x=.abs a from by
       have:=HN.out.2.2.2.2.2
       cases x with
       | abs a=>exact ⟨a,rfl⟩
       | _=>exact absurd this (by simp[opG]))
      obtain ⟨a,rfl⟩:=aI.out
      clear aI h2
      have aG:evTo 5 rs (argG (.abs a)) (argG (.abs a)).length=eval rs a:=evTo_one 5 rs (l:=[a]) (by simp)
      rw[aG,show 2+eszs (argG (.abs a))=esz (.abs a) by simp[argG,eszs,esz]; omega] at am
      obtain ⟨z0,z1,z2,z3⟩:=cells4 (ZR _ wr) aj.out
      clear aG
      go_wp2_with fail
      refine (ratAbs_any am.out).mono ?_
      rintro e w5 ⟨v5,rfl,bR,aC⟩
      obtain ⟨u1,i1,j1,o1,u2,i2,j2,o2,rfl⟩:=rt_shape bR
      clear z0 z1 z2 z3 x0 x1 x2 x3 x4
      have ag:=(aC.block bo (ZL aj.out)).trans aj.out
      have ak:=(aC.block br (ZL ai.out.2)).trans ai.out.2
      have ad:=rat_put ag az.out.2.2 (aS.out.trans (aC.mono aS.out.size)) bR
      obtain ⟨b1,bW,bJ,bO⟩:=cells4 (ZR _ w5) ag
      obtain ⟨wd,aZ⟩:∃x,x=(((w5.setCell ⟨bo,0,none⟩ (.bool u1)).setCell ⟨bo,1,none⟩ (.slice i1 j1 o1)).setCell ⟨bo,2,none⟩ (.bool u2)).setCell ⟨bo,3,none⟩ (.slice i2 j2 o2):=⟨_,rfl⟩
      obtain ⟨f0,aF,aE,aH⟩:=free4 ag
      have aW:=ad.block
      have av:=ad.rt
      have aO:=ad.below
      have a4:=(ad.but.block br az.out.2.1 (ZL ak)).trans ak
      rw[←aZ] at aW av aO a4
      have aD:=ZH (ZN aW (ZN av (ZN aO a4)))
      clear ad ag aW av aO a4 ak
      clear bR aC
      go_upto_region 19 with fail
      rw[←aZ]
      clear aZ f0 aF aE aH b1 bW bJ bO
      have aL:=aD.out.1
      have ah:=aD.out.2.2.2
      have ad:=rat_put ah a5.out.2 aD.out.2.2.1 aD.out.2.1
      obtain ⟨q0,q1,q2,q3⟩:=free4 ah
      obtain ⟨z0,z1,z2,z3⟩:=cells4 (ZR _ wd) aL
      obtain ⟨y0,y1,y2,y3⟩:=cells4 (ZR _ wd) ah
      have HF:=ZH ad
      clear ad aL ah
      go_wp2_with fail
      exact bodyPost_ret (v:=.tuple #[.agg #[.bool u1,.slice i1 j1 o1,.bool u2,.slice i2 j2 o2],.int .i64 0]) (by simp[results,Tryz.results49,go_sem,y0,y1,y2,y3]) rfl ⟨HF.out.below,.inl ⟨bZ.out,_,rfl,by rw[eval]; exact HF.out.rt⟩⟩
     ·have e5:(o==5)=false:=by simpa using h5
      have aG:evTo o rs (argG x) (argG x).length=eval rs x:=by
       have h3:=HN.out.2.2.2.2.2
       rw[h3]
       exact ev_all (by rw[←h3]; exact bq.out) (by rw[←h3]; exact h2) (by rw[←h3]; exact h5) rs
      have ce:2+eszs (argG x)≤esz x:=evz_le (by rw[←HN.out.2.2.2.2.2]; exact bq.out)
      rw[aG] at am
      have bP:=ZH (am.out.more ce)
      clear h2 h5 aG ce a0 am
      go_upto_region 19 with fail
      clear x0 x1 x2 x3 x4
      have aL:=aj.out
      have ah:=ai.out.2
      have ad:=rat_put ah a5.out.2 aS.out bP.out
      obtain ⟨f0,aF,aE,aH⟩:=free4 ah
      obtain ⟨z0,z1,z2,z3⟩:=cells4 (ZR _ wr) aL
      obtain ⟨y0,y1,y2,y3⟩:=cells4 (ZR _ wr) ah
      have HF:=ZH ad
      clear ad aL ah
      go_wp2_with fail
      exact bodyPost_ret (v:=.tuple #[.agg #[.bool p1,.slice a1 c1 l1,.bool p2,.slice a2 c2 l2],.int .i64 0]) (by simp[results,Tryz.results49,go_sem,y0,y1,y2,y3]) rfl ⟨HF.out.below,.inl ⟨bZ.out,_,rfl,HF.out.rt⟩⟩
theorem mEvaluate_any {n:Nat} (hn:n≤900) {rs:List Rat} {K:Nat} (hK:2≤K∧K≤12):∀(m:Nat) (x:GEx),dep x≤m→EvFine n x→∀(w:World) (v:Value) (ar:Option Addr) (cr:Nat),Glob w→RatsAt w ar cr rs K→ExIn w (raw x) v→Calls Tryz.prog 49 #[v,.slice ar rs.length cr] w (EvPost w rs x)
 | 0,x,hm,_=>by cases x<;>rw[dep] at hm<;>omega
 | m+1,x,hm,hf=>fun w v ar cr hg hr hx=>mEvaluate_step hn hK x (fun j hj=>mEvaluate_any hn hK m _ (by have:=arg_dep hj; omega) (hf.arg hj)) hf hg hr hx
end Go.Proofs.YtdgimcmappmjdaaGreatDoor

