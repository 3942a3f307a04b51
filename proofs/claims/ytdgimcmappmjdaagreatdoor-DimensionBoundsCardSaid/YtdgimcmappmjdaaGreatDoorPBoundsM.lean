/- The law's bounds. -/
import Derived.Test.YtdgimcmappmjdaaGreatDoorMBoundsM
import Derived.Test.YtdgimcmappmjdaaGreatDoorPFBoundsM
set_option linter.unusedSimpArgs false
set_option linter.unusedVariables false
set_option maxRecDepth 100000
namespace Go.Proofs.YtdgimcmappmjdaaGreatDoor
open List renaming setIfInBounds_toArray → zLa, set_cons_zero → zLb, set_cons_succ → zLc
open FlowR renaming putSel → zFp
open Act renaming put → zAp
open Nat renaming zero_add → zNz
open Flow.Steps renaming cons → zSc, nil → zSn
open FlowR.Step renaming of → zSo
open Go.RowKit Go.Num Go.Flow
open Go.Gx (LF GEx mn mx ab bnd bnds dep Over)
set_option maxHeartbeats 8000000
set_option linter.unusedVariables false

def PbPost (w:World) (D:List Dm) (x:GEx) (e:Ending) (w':World):Prop:=Below w.heap.size w w'∧∃lo hi,e=.returned (.tuple #[lo,hi])∧RtIn w' lo (bnd (boxes D) x).1 (bsz x)∧RtIn w' hi (bnd (boxes D) x).2 (bsz x)
theorem texts_400 {f:LF} (h:LiteF f):∀p,p∈formTexts f→p.2.length≤60∧readErr p.2 400=0:=fun p hp=>by
 obtain ⟨h1,r,h2,-,h3⟩:=texts_of hp
 have h4:=(liteF_texts h).2 r h2
 rw[h3]
 exact ⟨h4,read_num_ok (by omega) (by omega)⟩
theorem form_pbounds {w:World} {x:GEx} {f:LF} (hfx:x=.form f) {n:Nat} (hn:n≤900) {D:List Dm} (hfi:BndFit n (boxes D) x) (hup:UptoG D.length x) (hD:dmFine D) (hO:∀j,j<D.length→(D.getD j Dm.none).lower≤(D.getD j Dm.none).upper) (hg:Glob w) {ad:Option Addr} {cd:Nat} (hd:DimsIn w ad cd D) {tv:Value} (ht:TermsZ w tv (zTerms (formTexts f))) :
  Calls Tryz.prog 104 #[.agg #[.string ⟨(numText f.c).toArray⟩,tv],.slice ad D.length cd] w (PbPost w D x):=by
 subst hfx
 have hfo:f.t.length=n:=by have:=hfi.over; rwa[Over] at this
 have ah:=lite_form hfi.lite
 have hfz:=texts_400 ah
 have ae:=texts_len f
 have aa:FormAt w (.agg #[.string ⟨(numText f.c).toArray⟩,tv]) (numText f.c) (formTexts f):=⟨tv,rfl,TermsZ.nat ht⟩
 have ai:∀j,j<(formTexts f).length→(formTexts f).getD j (0,[])∈formTexts f:=fun j hj=>by
  rw[List.getD_eq_getElem?_getD,List.getElem?_eq_getElem hj]
  exact List.getElem_mem hj
 have hc:=(liteF_texts ah).1
 have hu:Upto D.length f:=by rwa[UptoG] at hup
 have hsz:=hfi.size
 rw[Go.Proofs.YtdgimcmappmjdaaGreatDoor.bsz] at hsz
 have h:=pformBounds_any hg aa (by omega) hd hD hO (S:=60) hc (read_num_ok (by omega) (by omega)) (by omega) (fun j hj=>⟨(upto_terms.1 hu) _ (ai j hj),hfz _ (ai j hj)⟩) (by omega)
 refine h.mono ?_
 rintro e w' ⟨lo,hi,rfl,af,ag,hbe⟩
 have hbd:(spreadTo D (numText f.c) (formTexts f) (formTexts f).length)=bnd (boxes D) (.form f):=by
  unfold spreadTo
  rw[List.take_length,read_num]
  refine spread_texts fun i hi=>hu i ?_
  unfold boxes at hi
  rwa[List.length_map] at hi
 rw[hbd] at af ag
 have ac:60+2+(formTexts f).length*(60+6)≤bsz (.form f):=by
  rw[bsz]
  have:=Nat.mul_le_mul_right 66 ae
  omega
 exact ⟨hbe,lo,hi,rfl,af.more ac,ag.more ac⟩
theorem args_some {n:Nat} {x:GEx} (h:Over n x) (h0:opG x≠0):0<(argG x).length:=by
 cases x with
 | form f=>exact absurd rfl h0
 | scale q a=>simp[argG]
 | abs a=>simp[argG]
 | add l=>rw[Over] at h; exact List.length_pos_iff.2 h.1
 | min l=>rw[Over] at h; exact List.length_pos_iff.2 h.1
 | max l=>rw[Over] at h; exact List.length_pos_iff.2 h.1
theorem ops_more {x:GEx} (h:1<(argG x).length):opG x=1∨opG x=3∨opG x=4:=by
 cases x<;>simp[opG,argG] at h⊢
theorem pbounds_step {n:Nat} (hn:n≤900) {D:List Dm} (hD:dmFine D) (hO:∀j,j<D.length→(D.getD j Dm.none).lower≤(D.getD j Dm.none).upper) (hB:∀y:GEx,(bnd (boxes D) y).1≤(bnd (boxes D) y).2) (x:GEx)
  (ih:∀j,j<(argG x).length→∀(w:World) (v:Value) (ad:Option Addr) (cd:Nat),Glob w→DimsIn w ad cd D→ExIn w (raw ((argG x).getD j (.add []))) v→Calls Tryz.prog 52 #[v,.slice ad D.length cd] w (PbPost w D ((argG x).getD j (.add []))))
  (hfi:BndFit n (boxes D) x) (hup:UptoG D.length x) {w:World} {v:Value} {ad:Option Addr} {cd:Nat} (hg:Glob w) (hd:DimsIn w ad cd D) (hx:ExIn w (raw x) v):Calls Tryz.prog 52 #[v,.slice ad D.length cd] w (PbPost w D x):=by
 obtain ⟨tv,aa,ac,rfl,bp,b3⟩:=hx.out
 rw[raw_args] at b3⊢
 rw[raws_len] at b3⊢
 obtain ⟨ta,tc,rfl,-⟩:=id bp
 obtain ⟨s0,bY⟩:∃s:ByteArray,s=⟨(raw x).c.toArray⟩:=⟨_,rfl⟩
 obtain ⟨s1,bL⟩:∃s:ByteArray,s=⟨(raw x).f.toArray⟩:=⟨_,rfl⟩
 obtain ⟨tn,cC⟩:∃x',x'=(raw x).t.length:=⟨_,rfl⟩
 obtain ⟨an,bX⟩:∃x',x'=(argG x).length:=⟨_,rfl⟩
 obtain ⟨nd,cJ⟩:∃x',x'=D.length:=⟨_,rfl⟩
 obtain ⟨o,ho⟩:∃x',x'=(raw x).op:=⟨_,rfl⟩
 rw[←bY,←bL,←cC,←bX,←ho,←cJ]
 unfold PbPost
 rw[←cC] at bp
 rw[←bX] at b3
 have ds:o=opG x:=by rw[ho,raw_op]
 obtain ⟨wa,bx,bl,bh,df,br,dh,c8,dc,k0,k1,k2⟩:=new_three w #[.int .i64 o,.string s0,.slice ta tn tc,.string s1,.slice aa an ac] #[.bool false,.slice none 0 0,.bool false,.slice none 0 0] #[.bool false,.slice none 0 0,.bool false,.slice none 0 0] 63 43 43
 have hcap:an≤ac∧ac≤9223372036854775807:=by
  obtain ⟨_,_,e,h1,h2,-⟩:=b3
  simp only[Value.slice.injEq] at e
  obtain ⟨-,-,rfl⟩:=e
  rw[raws_len,←bX] at h1
  exact ⟨h1,h2⟩
 have HG:=ZH hg
 have HD:=ZH hd
 have cy:=ZH (ZN hD (ZN hO hB))
 have bE:=ZH (ZN hfi hup)
 have HTZ:=ZH bp
 have HAX:=ZH b3
 have dj:=ZH ih
 have aP:=ZH dc
 have HK:=ZH (ZN k0 (ZN k1 k2))
 have ag:=ZH (show bl≠bh∧bx≠bl∧bx≠bh∧w.heap.size≤bl∧w.heap.size≤bh by omega)
 have HN:=ZH (ZN bX (ZN cJ (ZN bY (ZN bL (ZN cC ds)))))
 have HW:=ZH (ZN df (ZN br (ZN dh c8)))
 obtain ⟨x0,x1,x2,x3,x4⟩:=cells5 (ZR _ wa) k0
 clear df br dh c8 dc hg hd hfi bp b3 ih bY bL cC hx ho bX cJ ds k0 k1 k2 hup hD hO hB
 by_cases hop:o=0
 ·-- a form
  subst hop
  have bC:=ZH (show ∃f,x=.form f from by
   have:=HN.out.2.2.2.2.2
   cases x with
   | form f=>exact ⟨f,rfl⟩
   | _=>exact absurd this (by simp[opG]))
  obtain ⟨f,hf⟩:=bC.out
  have bs:=form_pbounds hf hn bE.out.1 bE.out.2 cy.out.1 cy.out.2.1 (HG.out.below aP.out) (HD.out.below aP.out) (tv:=.slice ta tn tc) (by
   have h:=HTZ.out.below aP.out
   rw[hf,raw] at h
   exact h)
  have bY:s0=⟨(numText f.c).toArray⟩:=by rw[HN.out.2.2.1,hf,raw]; rfl
  rw[←HN.out.2.1,←bY] at bs
  unfold PbPost at bs
  have HSP:=ZH bs
  clear bC hf bs bY
  go_enter Tryz.func52,Tryz.ntmps52
  go_upto_region 1 with fail
  rw[←HW.out.1,←HW.out.2.2.2,←HW.out.2.2.1,←HW.out.2.1]
  clear HW
  go_wp2_with fail
  refine HSP.out.mono ?_
  rintro e w1 ⟨bn,lo,hi,rfl,bf,bi⟩
  obtain ⟨a7,g3,i3,j3,a5,g4,i4,j4,rfl⟩:=rt_shape bf
  obtain ⟨a3,g5,i5,j5,aY,g6,i6,j6,rfl⟩:=rt_shape bi
  have aH:=aP.out.trans (bn.mono aP.out.size)
  have ai:=(bn.block bl (ZL HK.out.2.1)).trans HK.out.2.1
  have ah:=(bn.block bh (ZL HK.out.2.2)).trans HK.out.2.2
  obtain ⟨aF,aD,aA,aC⟩:=cells4 (ZR _ w1) ai
  obtain ⟨aK,aL,aG,aI⟩:=cells4 (ZR _ w1) ah
  obtain ⟨f0,ax,aw,ay⟩:=free4 ai
  obtain ⟨u0,u1,u2,u3⟩:=free4 ah
  have az:=ag.out.1
  have ak:=ag.out.1.symm
  have aj:=two_put ai ah ag.out.1 ag.out.2.2.2.1 ag.out.2.2.2.2 aH bf bi
  have HF:=ZH aj
  clear aj ai ah bf bi bn aH
  go_wp2_with fail
  exact bodyPost_ret (v:=.tuple #[.agg #[.bool a7,.slice g3 i3 j3,.bool a5,.slice g4 i4 j4],.agg #[.bool a3,.slice g5 i5 j5,.bool aY,.slice g6 i6 j6]]) (by simp[results,Tryz.results52,go_sem,aF,aD,aA,aC,aK,aL,aG,aI]) rfl ⟨HF.out.below,_,_,rfl,HF.out.r1,HF.out.r2⟩
 ·have e0:(o==0)=false:=by simpa using hop
  have cr:=ZH (ZN hop (show opG x≠0 by rw[←HN.out.2.2.2.2.2]; exact hop))
  have bX:0<an:=by rw[HN.out.1]; exact args_some bE.out.1.over cr.out.2
  clear hop
  have hn1:an≤100000:=by
   have h1:=bE.out.1.size
   have h2:=asz_le (x:=x) cr.out.2
   have h3:∀l:List GEx,l.length≤bszs l:=fun l=>by
    induction l with
    | nil=>simp
    | cons a l ih=>rw[bszs,List.length_cons]; omega
   have h4:=h3 (argG x)
   unfold asz at h2
   have:=HN.out.1
   omega
  obtain ⟨_,_,he,-,-,dk⟩:=HAX.out
  simp only[Value.slice.injEq] at he
  obtain ⟨rfl,-,rfl⟩:=he
  obtain ⟨g,og,rfl,-,b4⟩:=dk (by rw[raws_len,←HN.out.1]; omega)
  have HCC:=ZH b4
  have a9:0<(argG x).length:=by rw[←HN.out.1]; omega
  obtain ⟨utv,ua,uc,c0,bc,bw,c3,c4,bg,bu⟩:=b4.at (j:=0) (by rw[raws_len]; exact a9)
  rw[raws_at a9] at c0 bc c3 c4 bg bu
  have aT:=dj.out 0 a9
  rw[show og+0*5=og by omega] at c0 bc bw c3 c4
  have bW:=combTo_one o (boxes D) (l:=argG x) a9
  obtain ⟨y,hy⟩:∃y,y=(argG x).getD 0 (.add []):=⟨_,rfl⟩
  rw[←hy] at c0 bc c3 c4 bg bu aT bW
  obtain ⟨uta,utc,rfl,-⟩:=id bg
  obtain ⟨uo,bM⟩:∃q,q=(raw y).op:=⟨_,rfl⟩
  obtain ⟨us0,aR⟩:∃s:ByteArray,s=⟨(raw y).c.toArray⟩:=⟨_,rfl⟩
  obtain ⟨us1,aQ⟩:∃s:ByteArray,s=⟨(raw y).f.toArray⟩:=⟨_,rfl⟩
  obtain ⟨utn,aW⟩:∃q,q=(raw y).t.length:=⟨_,rfl⟩
  obtain ⟨uan,aV⟩:∃q,q=(raw y).a.length:=⟨_,rfl⟩
  have bN:=ExIn.of bg bu
  rw[←bM,←aR,←aQ,←aW,←aV] at bN
  rw[←bM] at c0
  rw[←aR] at bc
  rw[←aW] at bw
  rw[←aQ] at c3
  rw[←aV] at c4
  have z0:=ZJ aP.out c0
  have z1:=ZJ aP.out bc
  have z2:=ZJ aP.out bw
  have z3:=ZJ aP.out c3
  have z4:=ZJ aP.out c4
  have av:=(show ∀(w:World) (v:Value) (ad:Option Addr) (cd:Nat),Glob w→DimsIn w ad cd D→ExIn w (raw y) v→Calls Tryz.prog 52 #[v,.slice ad nd cd] w (PbPost w D y) from by rw[HN.out.2.1]; exact aT) _ _ _ _ (HG.out.below aP.out) (HD.out.below aP.out) (bN.below aP.out)
  unfold PbPost at av
  have ch:=ZH av
  have HU:=ZH (ZN bW (show bsz y≤2+bszs ((argG x).take 1) by
   have h1:bszs ((argG x).take 1)=bszs ((argG x).take 0)+(bsz ((argG x).getD 0 (.add []))+1):=bszs_take (k:=0) a9
   rw[←hy] at h1
   omega))
  have h00:(0:Int)<(an:Int):=by omega
  clear dk b4 c0 bc bw c3 c4 bg bu aT hy bM aR aQ aW aV bN a9 bW av
  go_enter Tryz.func52,Tryz.ntmps52
  go_upto_region 1 with fail
  rw[←HW.out.1,←HW.out.2.2.2,←HW.out.2.2.1,←HW.out.2.1]
  clear HW
  go_wp2_with fail
  refine ch.out.mono ?_
  rintro e w1 ⟨bn,lo,hi,rfl,bf,bi⟩
  obtain ⟨a7,g3,i3,j3,a5,g4,i4,j4,rfl⟩:=rt_shape bf
  obtain ⟨a3,g5,i5,j5,aY,g6,i6,j6,rfl⟩:=rt_shape bi
  have aH:=aP.out.trans (bn.mono aP.out.size)
  have ai:=(bn.block bl (ZL HK.out.2.1)).trans HK.out.2.1
  have ah:=(bn.block bh (ZL HK.out.2.2)).trans HK.out.2.2
  obtain ⟨aF,aD,aA,aC⟩:=cells4 (ZR _ w1) ai
  obtain ⟨aK,aL,aG,aI⟩:=cells4 (ZR _ w1) ah
  obtain ⟨f0,ax,aw,ay⟩:=free4 ai
  obtain ⟨u0,u1,u2,u3⟩:=free4 ah
  have az:=ag.out.1
  have ak:=ag.out.1.symm
  have aj:=two_put ai ah ag.out.1 ag.out.2.2.2.1 ag.out.2.2.2.2 aH bf bi
  have be:=aj.but bx _ ag.out.2.1 ag.out.2.2.1 ((bn.block bx (ZL HK.out.1)).trans HK.out.1)
  obtain ⟨wb,cG⟩:∃q,q=(((((((w1.setCell ⟨bl,0,none⟩ (.bool a7)).setCell ⟨bl,1,none⟩ (.slice g3 i3 j3)).setCell ⟨bl,2,none⟩ (.bool a5)).setCell ⟨bl,3,none⟩ (.slice g4 i4 j4)).setCell ⟨bh,0,none⟩ (.bool a3)).setCell ⟨bh,1,none⟩ (.slice g5 i5 j5)).setCell ⟨bh,2,none⟩ (.bool aY)).setCell ⟨bh,3,none⟩ (.slice g6 i6 j6):=⟨_,rfl⟩
  rw[←cG] at aj be
  have bZ:=ZH (ZN aj be)
  clear aj be ai ah bf bi bn aH x0 x1 x2 x3 x4 z0 z1 z2 z3 z4 ch
  go_upto_region 4 with fail
  rw[←cG]
  clear cG az ak f0 ax aw ay u0 u1 u2 u3 aF aD aA aC aK aL aG aI HK aP
  go_wp2_with fail
  go_loopg [6] (an-1) (fun gk i wr=>∃k:Nat,k+gk=an∧1≤k∧i=.int .i64 k∧Hid (∃s1 a1 c1 l1 s2 a2 c2 l2 t1 b1 d1 m1 t2 b2 d2 m2,wr.heap[bl]?=some (.cells #[.bool s1,.slice a1 c1 l1,.bool s2,.slice a2 c2 l2] 43 (0,0))∧wr.heap[bh]?=some (.cells #[.bool t1,.slice b1 d1 m1,.bool t2,.slice b2 d2 m2] 43 (0,0))∧RtIn wr (.agg #[.bool s1,.slice a1 c1 l1,.bool s2,.slice a2 c2 l2]) (combTo o (boxes D) (argG x) k).1 (2+bszs ((argG x).take k))∧RtIn wr (.agg #[.bool t1,.slice b1 d1 m1,.bool t2,.slice b2 d2 m2]) (combTo o (boxes D) (argG x) k).2 (2+bszs ((argG x).take k)))∧Hid (wr.heap[bx]?=some (.cells #[.int .i64 o,.string s0,.slice ta tn tc,.string s1,.slice (some ⟨g,og,none⟩) an ac] 63 (0,0)))∧Hid (Below w.heap.size w wr))
  case atStart=>exact ⟨1,by omega,Nat.le_refl _,rfl,ZH ⟨_,_,_,_,_,_,_,_,_,_,_,_,_,_,_,_,bZ.out.1.kl,bZ.out.1.kh,by rw[HU.out.1]; exact bZ.out.1.r1.more HU.out.2,by rw[HU.out.1]; exact bZ.out.1.r2.more HU.out.2⟩,ZH bZ.out.2,ZH bZ.out.1.below⟩
  case round=>
   obtain ⟨k,hk,ce,rfl,bF,cn,aH⟩:=hrel
   obtain ⟨p1,a1,c1,l1,p2,a2,c2,l2,t1,b1,d1,m1,t2,b2,d2,m2,cv,cB,cc,b8⟩:=bF.out
   obtain ⟨x0,x1,x2,x3,x4⟩:=cells5 (ZR _ wr) cn.out
   by_cases hlt:k<an
   ·have e1:((k:Int)<(an:Int))=True:=eq_true (by omega)
    have ct:=ops_more (x:=x) (by rw[←HN.out.1]; omega)
    rw[←HN.out.2.2.2.2.2] at ct
    have b4:=HCC.out
    have a9:k<(argG x).length:=by rw[←HN.out.1]; omega
    obtain ⟨utv,ua,uc,c0,bc,bw,c3,c4,bg,bu⟩:=b4.at (j:=k) (by rw[raws_len]; exact a9)
    rw[raws_at a9] at c0 bc c3 c4 bg bu
    have aT:=dj.out k a9
    have bV:=combTo_succ o (boxes D) a9 (show 0<k by omega)
    have cg:=bszs_take a9
    obtain ⟨y,hy⟩:∃y,y=(argG x).getD k (.add []):=⟨_,rfl⟩
    rw[←hy] at c0 bc c3 c4 bg bu aT bV cg
    obtain ⟨uta,utc,rfl,-⟩:=id bg
    obtain ⟨uo,bM⟩:∃q,q=(raw y).op:=⟨_,rfl⟩
    obtain ⟨us0,aR⟩:∃s:ByteArray,s=⟨(raw y).c.toArray⟩:=⟨_,rfl⟩
    obtain ⟨us1,aQ⟩:∃s:ByteArray,s=⟨(raw y).f.toArray⟩:=⟨_,rfl⟩
    obtain ⟨utn,aW⟩:∃q,q=(raw y).t.length:=⟨_,rfl⟩
    obtain ⟨uan,aV⟩:∃q,q=(raw y).a.length:=⟨_,rfl⟩
    have bN:=ExIn.of bg bu
    rw[←bM,←aR,←aQ,←aW,←aV] at bN
    rw[←bM] at c0
    rw[←aR] at bc
    rw[←aW] at bw
    rw[←aQ] at c3
    rw[←aV] at c4
    have z0:=ZJ aH.out c0
    have z1:=ZJ aH.out bc
    have z2:=ZJ aH.out bw
    have z3:=ZJ aH.out c3
    have z4:=ZJ aH.out c4
    have av:=(show ∀(w:World) (v:Value) (ad:Option Addr) (cd:Nat),Glob w→DimsIn w ad cd D→ExIn w (raw y) v→Calls Tryz.prog 52 #[v,.slice ad nd cd] w (PbPost w D y) from by rw[HN.out.2.1]; exact aT) _ _ _ _ (HG.out.below aH.out) (HD.out.below aH.out) (bN.below aH.out)
    unfold PbPost at av
    have ch:=ZH av
    have dp:combTo o (boxes D) (argG x) (k+1)=(fop o (combTo o (boxes D) (argG x) k).1 (bnd (boxes D) y).1,fop o (combTo o (boxes D) (argG x) k).2 (bnd (boxes D) y).2):=bV
    clear bV
    have hk0:(0:Int)≤(k:Int):=by omega
    have hk1:(k:Int)<(an:Int):=by omega
    have a4:=ZH (ZN hlt (ZN ce dp))
    have cZ:=ZH cn.out
    have cp:=ZH (ZN cv cB)
    have co:=ZH (ZN cc b8)
    have cU:=ZH aH.out
    obtain ⟨va,dv⟩:∃q,q=combTo o (boxes D) (argG x) k:=⟨_,rfl⟩
    rw[←dv] at co a4
    obtain ⟨K0,dq⟩:∃q,q=2+bszs ((argG x).take k):=⟨_,rfl⟩
    rw[←dq] at co
    have aE:=ZH (show K0+bsz y+1≤100000∧2+bszs ((argG x).take (k+1))=K0+bsz y+1∧2≤K0∧2≤bsz y by
     have h1:=bE.out.1.size
     have h2:=asz_le (x:=x) cr.out.2
     have h3:=bszs_le (l:=argG x) (k:=k+1)
     have h4:=bsz_two y
     unfold asz at h2
     omega)
    clear b4 c0 bc bw c3 c4 bg bu aT hy bM aR aQ aW aV bN a9 av dp cg cn cv cB cc b8 aH bF dv dq hlt ce
    go_wp2_with fail
    refine ch.out.mono ?_
    rintro e w5 ⟨ci,lo,hi,rfl,bf,bi⟩
    obtain ⟨q1,g1,i1,j1,q2,g2,i2,j2,rfl⟩:=rt_shape bf
    obtain ⟨q3,g3,i3,j3,q4,g4,i4,j4,rfl⟩:=rt_shape bi
    have cM:=ZH (ZN bf bi)
    have bD:=ZH ci
    clear bf bi ci x0 x1 x2 x3 x4 z0 z1 z2 z3 z4 ch
    go_upto_region 8 with fail
    obtain ⟨w6,bA,bB,cl,dt,c9,bz,kA,kB⟩:=new_two w5 #[.bool q1,.slice g1 i1 j1,.bool q2,.slice g2 i2 j2] #[.bool q3,.slice g3 i3 j3,.bool q4,.slice g4 i4 j4] 43 43
    rw[←cl,←c9,←dt]
    have bS:=bD.out.trans (bz.mono bD.out.size)
    have aO:=ZH (cU.out.trans (bS.mono cU.out.size))
    have aS:=ZH ((bS.block bx (ZL cZ.out)).trans cZ.out)
    have af:=ZH (ZN ((bS.block bl (ZL cp.out.1)).trans cp.out.1) ((bS.block bh (ZL cp.out.2)).trans cp.out.2))
    have al:=ZH (ZN (co.out.1.below bS) (co.out.2.below bS))
    have a8:=ZH (ZN kA kB)
    have aB:=ZH (ZN (cM.out.1.below bz) (cM.out.2.below bz))
    have aJ:=ZH (ZR w6.heap.size w6)
    clear cl dt c9 bz kA kB bS cZ cp co cM bD cU
    obtain ⟨x0,x1,x2,x3,x4⟩:=cells5 (ZR _ w6) aS.out
    rcases ct with h3 | h3 | h3
    ·subst h3
     go_upto_region 10 with fail
     clear x0 x1 x2 x3 x4
     refine FlowR.wp_region_sel (fun a b=>Below a.heap.size a b) (fun a=>ZR _ a) (fun _ _ _ h k=>h.trans (k.mono h.size)) [0,1,2,3,4,5] [false,false,false,false,false,false,false,false] [true,true,true,true,true,true,false,false] (fun i9 v w'=>match i9 with
      | 0=>v=.agg #[.bool p1,.slice a1 c1 l1,.bool p2,.slice a2 c2 l2]
      | 1=>v=.agg #[.bool q1,.slice g1 i1 j1,.bool q2,.slice g2 i2 j2]
      | 2=>RtIn w' v (fop 1 va.1 (bnd (boxes D) y).1) (K0+bsz y+1)
      | 3=>v=.agg #[.bool t1,.slice b1 d1 m1,.bool t2,.slice b2 d2 m2]
      | 4=>v=.agg #[.bool q3,.slice g3 i3 j3,.bool q4,.slice g4 i4 j4]
      | _=>RtIn w' v (fop 1 va.2 (bnd (boxes D) y).2) (K0+bsz y+1)) rfl rfl (by kernel_rfl) (by kernel_rfl) (by kernel_rfl) (by kernel_rfl) ?st ?_ ?_
     case st=>
      intro i9 v u1 u2 h hb
      match i9 with
      | 0 | 1 | 3 | 4=>exact h
      | 2 | 5 | _+6=>exact RtIn.below h hb
     refine zSc (zSo rfl ?s0) (zSc (zSo rfl ?s1) (zSc (zSo rfl ?s2) (zSc (zSo rfl ?s3) (zSc (zSo rfl ?s4) (zSc (zSo rfl ?s5) zSn)))))
     case s0 | s1 | s3 | s4=>
      intro xs w' hb hT K9 ae
      clear hT
      simp only[zFp,zAp,zLa,zLb,zLc,Nat.reduceAdd,zNz] at ae⊢
      have hw:=Flow.hwD aJ.out hb
      obtain ⟨y0,y1,y2,y3⟩:=cells4 hw af.out.1
      obtain ⟨z0,z1,z2,z3⟩:=cells4 hw a8.out.1
      obtain ⟨u0,u1,u2,u3⟩:=cells4 hw af.out.2
      obtain ⟨v0,v1,v2,v3⟩:=cells4 hw a8.out.2
      go_simp
      exact ae _ _ (ZR _ _) rfl
     case s2=>
      intro xs w' hb hT K9 ae
      have h0:(xs 0)=.agg #[.bool p1,.slice a1 c1 l1,.bool p2,.slice a2 c2 l2]:=hT 0 (by kernel_rfl)
      have h1:(xs 1)=.agg #[.bool q1,.slice g1 i1 j1,.bool q2,.slice g2 i2 j2]:=hT 1 (by kernel_rfl)
      clear hT
      simp only[zFp,zAp,zLa,zLb,zLc,Nat.reduceAdd,zNz] at ae⊢
      have hw:=Flow.hwD aJ.out hb
      (try simp only[h0] at ae)
      (try simp only[h1] at ae)
      go_simp
      go_at_call 79
      refine (ratAdd_any (al.out.1.below hw) (aB.out.1.below hw) aE.out.2.2.1 aE.out.2.2.2 (by have:=aE.out; omega)).mono ?_
      rintro e w3 ⟨v3,rfl,au,ap⟩
      exact ae _ _ ap au
     case s5=>
      intro xs w' hb hT K9 ae
      have h3:(xs 3)=.agg #[.bool t1,.slice b1 d1 m1,.bool t2,.slice b2 d2 m2]:=hT 3 (by kernel_rfl)
      have h4:(xs 4)=.agg #[.bool q3,.slice g3 i3 j3,.bool q4,.slice g4 i4 j4]:=hT 4 (by kernel_rfl)
      clear hT
      simp only[zFp,zAp,zLa,zLb,zLc,Nat.reduceAdd,zNz] at ae⊢
      have hw:=Flow.hwD aJ.out hb
      (try simp only[h3] at ae)
      (try simp only[h4] at ae)
      go_simp
      go_at_call 79
      refine (ratAdd_any (al.out.2.below hw) (aB.out.2.below hw) aE.out.2.2.1 aE.out.2.2.2 (by have:=aE.out; omega)).mono ?_
      rintro e w3 ⟨v3,rfl,au,ap⟩
      exact ae _ _ ap au
     intro xs w' hb hT
     have hw:=Flow.hwD aJ.out hb
     have h2:RtIn w' (xs 2) (fop 1 va.1 (bnd (boxes D) y).1) (K0+bsz y+1):=hT 2 (by rfl)
     have h5:RtIn w' (xs 5) (fop 1 va.2 (bnd (boxes D) y).2) (K0+bsz y+1):=hT 5 (by rfl)
     clear hT
     simp only[zFp,zAp,zLa,zLb,zLc,Nat.reduceAdd,zNz,FlowR.restL,FlowR.orM,Bool.false_or]
     obtain ⟨aM,g7,i7,j7,aN,g8,i8,j8,e5⟩:=rt_shape h2
     obtain ⟨aX,g9,i9,j9,a0,gx,ix,jx,aU⟩:=rt_shape h5
     rw[e5] at h2
     rw[aU] at h5
     simp only[e5,aU]
     clear e5 aU
     have ai:=(hw.block bl (ZL af.out.1)).trans af.out.1
     have ah:=(hw.block bh (ZL af.out.2)).trans af.out.2
     obtain ⟨aF,aD,aA,aC⟩:=cells4 (ZR _ w') ai
     obtain ⟨aK,aL,aG,aI⟩:=cells4 (ZR _ w') ah
     obtain ⟨f0,ax,aw,ay⟩:=free4 ai
     obtain ⟨u0,u1,u2,u3⟩:=free4 ah
     have az:=ag.out.1
     have ak:=ag.out.1.symm
     have aj:=two_put ai ah ag.out.1 ag.out.2.2.2.1 ag.out.2.2.2.2 (aO.out.trans (hw.mono aO.out.size)) h2 h5
     have be:=aj.but bx _ ag.out.2.1 ag.out.2.2.1 ((hw.block bx (ZL aS.out)).trans aS.out)
     have HF:=ZH (ZN aj be)
     clear aj be ai ah h2 h5 hb hw
     go_wp2_with fail
     go_roundg (an-(k+1))
     case measure=>have:=a4.out.1; omega
     case rel=>exact ⟨k+1,by have:=a4.out.1; omega,by omega,by congr 1,ZH ⟨_,_,_,_,_,_,_,_,_,_,_,_,_,_,_,_,HF.out.1.kl,HF.out.1.kh,by rw[a4.out.2.2,aE.out.2.1]; exact HF.out.1.r1,by rw[a4.out.2.2,aE.out.2.1]; exact HF.out.1.r2⟩,ZH HF.out.2,ZH HF.out.1.below⟩
    ·subst h3
     go_upto_region 12 with fail
     clear x0 x1 x2 x3 x4
     refine FlowR.wp_region_sel (fun a b=>Below a.heap.size a b) (fun a=>ZR _ a) (fun _ _ _ h k=>h.trans (k.mono h.size)) [0,1,2,3,4,5] [false,false,false,false,false,false,false,false] [true,true,true,true,true,true,false,false] (fun i9 v w'=>match i9 with
      | 0=>v=.agg #[.bool p1,.slice a1 c1 l1,.bool p2,.slice a2 c2 l2]
      | 1=>v=.agg #[.bool q1,.slice g1 i1 j1,.bool q2,.slice g2 i2 j2]
      | 2=>RtIn w' v (fop 3 va.1 (bnd (boxes D) y).1) (K0+bsz y+1)
      | 3=>v=.agg #[.bool t1,.slice b1 d1 m1,.bool t2,.slice b2 d2 m2]
      | 4=>v=.agg #[.bool q3,.slice g3 i3 j3,.bool q4,.slice g4 i4 j4]
      | _=>RtIn w' v (fop 3 va.2 (bnd (boxes D) y).2) (K0+bsz y+1)) rfl rfl (by kernel_rfl) (by kernel_rfl) (by kernel_rfl) (by kernel_rfl) ?st ?_ ?_
     case st=>
      intro i9 v u1 u2 h hb
      match i9 with
      | 0 | 1 | 3 | 4=>exact h
      | 2 | 5 | _+6=>exact RtIn.below h hb
     refine zSc (zSo rfl ?s0) (zSc (zSo rfl ?s1) (zSc (zSo rfl ?s2) (zSc (zSo rfl ?s3) (zSc (zSo rfl ?s4) (zSc (zSo rfl ?s5) zSn)))))
     case s0 | s1 | s3 | s4=>
      intro xs w' hb hT K9 ae
      clear hT
      simp only[zFp,zAp,zLa,zLb,zLc,Nat.reduceAdd,zNz] at ae⊢
      have hw:=Flow.hwD aJ.out hb
      obtain ⟨y0,y1,y2,y3⟩:=cells4 hw af.out.1
      obtain ⟨z0,z1,z2,z3⟩:=cells4 hw a8.out.1
      obtain ⟨u0,u1,u2,u3⟩:=cells4 hw af.out.2
      obtain ⟨v0,v1,v2,v3⟩:=cells4 hw a8.out.2
      go_simp
      exact ae _ _ (ZR _ _) rfl
     case s2=>
      intro xs w' hb hT K9 ae
      have h0:(xs 0)=.agg #[.bool p1,.slice a1 c1 l1,.bool p2,.slice a2 c2 l2]:=hT 0 (by kernel_rfl)
      have h1:(xs 1)=.agg #[.bool q1,.slice g1 i1 j1,.bool q2,.slice g2 i2 j2]:=hT 1 (by kernel_rfl)
      clear hT
      simp only[zFp,zAp,zLa,zLb,zLc,Nat.reduceAdd,zNz] at ae⊢
      have hw:=Flow.hwD aJ.out hb
      (try simp only[h0] at ae)
      (try simp only[h1] at ae)
      go_simp
      go_at_call 105
      refine (plesser_any ((al.out.1.below hw).more (show K0≤K0+bsz y+1 by omega)) ((aB.out.1.below hw).more (show bsz y≤K0+bsz y+1 by omega)) (by have:=aE.out; omega) (by have:=aE.out; omega)).mono ?_
      rintro e w3 ⟨v3,rfl,au,ap⟩
      exact ae _ _ ap au
     case s5=>
      intro xs w' hb hT K9 ae
      have h3:(xs 3)=.agg #[.bool t1,.slice b1 d1 m1,.bool t2,.slice b2 d2 m2]:=hT 3 (by kernel_rfl)
      have h4:(xs 4)=.agg #[.bool q3,.slice g3 i3 j3,.bool q4,.slice g4 i4 j4]:=hT 4 (by kernel_rfl)
      clear hT
      simp only[zFp,zAp,zLa,zLb,zLc,Nat.reduceAdd,zNz] at ae⊢
      have hw:=Flow.hwD aJ.out hb
      (try simp only[h3] at ae)
      (try simp only[h4] at ae)
      go_simp
      go_at_call 105
      refine (plesser_any ((al.out.2.below hw).more (show K0≤K0+bsz y+1 by omega)) ((aB.out.2.below hw).more (show bsz y≤K0+bsz y+1 by omega)) (by have:=aE.out; omega) (by have:=aE.out; omega)).mono ?_
      rintro e w3 ⟨v3,rfl,au,ap⟩
      exact ae _ _ ap au
     intro xs w' hb hT
     have hw:=Flow.hwD aJ.out hb
     have h2:RtIn w' (xs 2) (fop 3 va.1 (bnd (boxes D) y).1) (K0+bsz y+1):=hT 2 (by rfl)
     have h5:RtIn w' (xs 5) (fop 3 va.2 (bnd (boxes D) y).2) (K0+bsz y+1):=hT 5 (by rfl)
     clear hT
     simp only[zFp,zAp,zLa,zLb,zLc,Nat.reduceAdd,zNz,FlowR.restL,FlowR.orM,Bool.false_or]
     obtain ⟨aM,g7,i7,j7,aN,g8,i8,j8,e5⟩:=rt_shape h2
     obtain ⟨aX,g9,i9,j9,a0,gx,ix,jx,aU⟩:=rt_shape h5
     rw[e5] at h2
     rw[aU] at h5
     simp only[e5,aU]
     clear e5 aU
     have ai:=(hw.block bl (ZL af.out.1)).trans af.out.1
     have ah:=(hw.block bh (ZL af.out.2)).trans af.out.2
     obtain ⟨aF,aD,aA,aC⟩:=cells4 (ZR _ w') ai
     obtain ⟨aK,aL,aG,aI⟩:=cells4 (ZR _ w') ah
     obtain ⟨f0,ax,aw,ay⟩:=free4 ai
     obtain ⟨u0,u1,u2,u3⟩:=free4 ah
     have az:=ag.out.1
     have ak:=ag.out.1.symm
     have aj:=two_put ai ah ag.out.1 ag.out.2.2.2.1 ag.out.2.2.2.2 (aO.out.trans (hw.mono aO.out.size)) h2 h5
     have be:=aj.but bx _ ag.out.2.1 ag.out.2.2.1 ((hw.block bx (ZL aS.out)).trans aS.out)
     have HF:=ZH (ZN aj be)
     clear aj be ai ah h2 h5 hb hw
     go_wp2_with fail
     go_roundg (an-(k+1))
     case measure=>have:=a4.out.1; omega
     case rel=>exact ⟨k+1,by have:=a4.out.1; omega,by omega,by congr 1,ZH ⟨_,_,_,_,_,_,_,_,_,_,_,_,_,_,_,_,HF.out.1.kl,HF.out.1.kh,by rw[a4.out.2.2,aE.out.2.1]; exact HF.out.1.r1,by rw[a4.out.2.2,aE.out.2.1]; exact HF.out.1.r2⟩,ZH HF.out.2,ZH HF.out.1.below⟩
    ·subst h3
     go_upto_region 14 with fail
     clear x0 x1 x2 x3 x4
     refine FlowR.wp_region_sel (fun a b=>Below a.heap.size a b) (fun a=>ZR _ a) (fun _ _ _ h k=>h.trans (k.mono h.size)) [0,1,2,3,4,5] [false,false,false,false,false,false,false,false] [true,true,true,true,true,true,false,false] (fun i9 v w'=>match i9 with
      | 0=>v=.agg #[.bool p1,.slice a1 c1 l1,.bool p2,.slice a2 c2 l2]
      | 1=>v=.agg #[.bool q1,.slice g1 i1 j1,.bool q2,.slice g2 i2 j2]
      | 2=>RtIn w' v (fop 4 va.1 (bnd (boxes D) y).1) (K0+bsz y+1)
      | 3=>v=.agg #[.bool t1,.slice b1 d1 m1,.bool t2,.slice b2 d2 m2]
      | 4=>v=.agg #[.bool q3,.slice g3 i3 j3,.bool q4,.slice g4 i4 j4]
      | _=>RtIn w' v (fop 4 va.2 (bnd (boxes D) y).2) (K0+bsz y+1)) rfl rfl (by kernel_rfl) (by kernel_rfl) (by kernel_rfl) (by kernel_rfl) ?st ?_ ?_
     case st=>
      intro i9 v u1 u2 h hb
      match i9 with
      | 0 | 1 | 3 | 4=>exact h
      | 2 | 5 | _+6=>exact RtIn.below h hb
     refine zSc (zSo rfl ?s0) (zSc (zSo rfl ?s1) (zSc (zSo rfl ?s2) (zSc (zSo rfl ?s3) (zSc (zSo rfl ?s4) (zSc (zSo rfl ?s5) zSn)))))
     case s0 | s1 | s3 | s4=>
      intro xs w' hb hT K9 ae
      clear hT
      simp only[zFp,zAp,zLa,zLb,zLc,Nat.reduceAdd,zNz] at ae⊢
      have hw:=Flow.hwD aJ.out hb
      obtain ⟨y0,y1,y2,y3⟩:=cells4 hw af.out.1
      obtain ⟨z0,z1,z2,z3⟩:=cells4 hw a8.out.1
      obtain ⟨u0,u1,u2,u3⟩:=cells4 hw af.out.2
      obtain ⟨v0,v1,v2,v3⟩:=cells4 hw a8.out.2
      go_simp
      exact ae _ _ (ZR _ _) rfl
     case s2=>
      intro xs w' hb hT K9 ae
      have h0:(xs 0)=.agg #[.bool p1,.slice a1 c1 l1,.bool p2,.slice a2 c2 l2]:=hT 0 (by kernel_rfl)
      have h1:(xs 1)=.agg #[.bool q1,.slice g1 i1 j1,.bool q2,.slice g2 i2 j2]:=hT 1 (by kernel_rfl)
      clear hT
      simp only[zFp,zAp,zLa,zLb,zLc,Nat.reduceAdd,zNz] at ae⊢
      have hw:=Flow.hwD aJ.out hb
      (try simp only[h0] at ae)
      (try simp only[h1] at ae)
      go_simp
      go_at_call 106
      refine (pgreater_any ((al.out.1.below hw).more (show K0≤K0+bsz y+1 by omega)) ((aB.out.1.below hw).more (show bsz y≤K0+bsz y+1 by omega)) (by have:=aE.out; omega) (by have:=aE.out; omega)).mono ?_
      rintro e w3 ⟨v3,rfl,au,ap⟩
      exact ae _ _ ap au
     case s5=>
      intro xs w' hb hT K9 ae
      have h3:(xs 3)=.agg #[.bool t1,.slice b1 d1 m1,.bool t2,.slice b2 d2 m2]:=hT 3 (by kernel_rfl)
      have h4:(xs 4)=.agg #[.bool q3,.slice g3 i3 j3,.bool q4,.slice g4 i4 j4]:=hT 4 (by kernel_rfl)
      clear hT
      simp only[zFp,zAp,zLa,zLb,zLc,Nat.reduceAdd,zNz] at ae⊢
      have hw:=Flow.hwD aJ.out hb
      (try simp only[h3] at ae)
      (try simp only[h4] at ae)
      go_simp
      go_at_call 106
      refine (pgreater_any ((al.out.2.below hw).more (show K0≤K0+bsz y+1 by omega)) ((aB.out.2.below hw).more (show bsz y≤K0+bsz y+1 by omega)) (by have:=aE.out; omega) (by have:=aE.out; omega)).mono ?_
      rintro e w3 ⟨v3,rfl,au,ap⟩
      exact ae _ _ ap au
     intro xs w' hb hT
     have hw:=Flow.hwD aJ.out hb
     have h2:RtIn w' (xs 2) (fop 4 va.1 (bnd (boxes D) y).1) (K0+bsz y+1):=hT 2 (by rfl)
     have h5:RtIn w' (xs 5) (fop 4 va.2 (bnd (boxes D) y).2) (K0+bsz y+1):=hT 5 (by rfl)
     clear hT
     simp only[zFp,zAp,zLa,zLb,zLc,Nat.reduceAdd,zNz,FlowR.restL,FlowR.orM,Bool.false_or]
     obtain ⟨aM,g7,i7,j7,aN,g8,i8,j8,e5⟩:=rt_shape h2
     obtain ⟨aX,g9,i9,j9,a0,gx,ix,jx,aU⟩:=rt_shape h5
     rw[e5] at h2
     rw[aU] at h5
     simp only[e5,aU]
     clear e5 aU
     have ai:=(hw.block bl (ZL af.out.1)).trans af.out.1
     have ah:=(hw.block bh (ZL af.out.2)).trans af.out.2
     obtain ⟨aF,aD,aA,aC⟩:=cells4 (ZR _ w') ai
     obtain ⟨aK,aL,aG,aI⟩:=cells4 (ZR _ w') ah
     obtain ⟨f0,ax,aw,ay⟩:=free4 ai
     obtain ⟨u0,u1,u2,u3⟩:=free4 ah
     have az:=ag.out.1
     have ak:=ag.out.1.symm
     have aj:=two_put ai ah ag.out.1 ag.out.2.2.2.1 ag.out.2.2.2.2 (aO.out.trans (hw.mono aO.out.size)) h2 h5
     have be:=aj.but bx _ ag.out.2.1 ag.out.2.2.1 ((hw.block bx (ZL aS.out)).trans aS.out)
     have HF:=ZH (ZN aj be)
     clear aj be ai ah h2 h5 hb hw
     go_wp2_with fail
     go_roundg (an-(k+1))
     case measure=>have:=a4.out.1; omega
     case rel=>exact ⟨k+1,by have:=a4.out.1; omega,by omega,by congr 1,ZH ⟨_,_,_,_,_,_,_,_,_,_,_,_,_,_,_,_,HF.out.1.kl,HF.out.1.kh,by rw[a4.out.2.2,aE.out.2.1]; exact HF.out.1.r1,by rw[a4.out.2.2,aE.out.2.1]; exact HF.out.1.r2⟩,ZH HF.out.2,ZH HF.out.1.below⟩
   ·have e1:((k:Int)<(an:Int))=False:=eq_false (by omega)
    obtain rfl:k=an:=by omega
    have bQ:=ZH cn.out
    have ar:=ZH (ZN cv cB)
    rw[HN.out.1,List.take_length] at cc b8
    have ao:=ZH (ZN cc b8)
    have bJ:=ZH aH.out
    have bt:=ZH (ZR wr.heap.size wr)
    clear bF cn cv cB cc b8 aH
    by_cases h2:o=2
    ·subst h2
     have bC:=ZH (show ∃q a,x=.scale q a from by
      have:=HN.out.2.2.2.2.2
      cases x with
      | scale q a=>exact ⟨q,a,rfl⟩
      | _=>exact absurd this (by simp[opG]))
     obtain ⟨q,a,rfl⟩:=bC.out
     clear bC
     have dr:=bscale_text bE.out.1
     have bL:s1.data.toList=numText q:=by rw[HN.out.2.2.2.1,raw]; rfl
     have cR:=prat_any s1 (w:=wr) (by
      have h1:s1.size=(numText q).length:=by rw[HN.out.2.2.2.1,raw]; simp[ByteArray.size,Ex.f]
      omega) (HG.out.below bJ.out) (by rw[bL]; exact read_num_ok (by omega) (by omega))
     rw[bL,read_num] at cR
     have c7:=ZH cR
     have HQ:=ZH dr
     have bv:combTo 2 (boxes D) (argG (.scale q a)) (argG (.scale q a)).length=bnd (boxes D) a:=combTo_one 2 (boxes D) (l:=[a]) (by simp)
     rw[bv,show 2+bszs (argG (.scale q a))=bsz a+3 by simp[argG,bszs]; omega] at ao
     have cA:=mn_mul (q:=q) (cy.out.2.2 a)
     obtain ⟨ra,bU⟩:∃p,p=bnd (boxes D) a:=⟨_,rfl⟩
     rw[←bU] at ao cA
     have dm:=ZH (show bnd (boxes D) (.scale q a)=((if q<0 then q*ra.2 else q*ra.1),(if q<0 then q*ra.1 else q*ra.2)) from by
      rw[bnd,←bU,cA.1,cA.2])
     have aZ:=ZH (show bsz a≤100000∧bsz (.scale q a)=62+(bsz a+3) by
      have:=bE.out.1.size
      rw[bsz] at this⊢
      omega)
     clear dr bL cR bv cA bU
     go_wp2_with fail
     refine c7.out.mono ?_
     rintro e w5 ⟨v5,rfl,cH,ci⟩
     obtain ⟨z1,i1,j1,o1,z2,i2,j2,o2,rfl⟩:=rt_shape cH
     have db:=ZH (cH.more (show (numText q).length+2≤62 by have:=HQ.out; omega))
     have bD:=ZH ci
     clear cH ci x0 x1 x2 x3 x4 c7
     go_upto_region 18 with fail
     obtain ⟨w6,bk,cl,dn,bz,kk⟩:=new_box w5 #[.bool z1,.slice i1 j1 o1,.bool z2,.slice i2 j2 o2] 43
     rw[←cl,←dn]
     have b0:=bD.out.trans (bz.mono bD.out.size)
     have bT:=ZH (ZN kk (db.out.below bz))
     have af:=ZH (ZN ((b0.block bl (ZL ar.out.1)).trans ar.out.1) ((b0.block bh (ZL ar.out.2)).trans ar.out.2))
     have al:=ZH (ZN (ao.out.1.below b0) (ao.out.2.below b0))
     have aO:=ZH (bJ.out.trans (b0.mono bJ.out.size))
     have aJ:=ZH (ZR w6.heap.size w6)
     have di:=ZH (show bk≠bl∧bk≠bh by
      have h1:=ZL ar.out.1
      have h2:=ZL ar.out.2
      have h3:=bD.out.size
      omega)
     clear cl dn bz kk b0 db bD ar ao bJ bt bQ
     refine FlowR.wp_region_sel (fun a b=>Below a.heap.size a b) (fun a=>ZR _ a) (fun _ _ _ h k=>h.trans (k.mono h.size)) [0,1,2,3,4,5] [false,false,false,false,false,false,false,false] [true,true,true,true,true,true,false,false] (fun i9 v w'=>match i9 with
      | 0=>v=.agg #[.bool z1,.slice i1 j1 o1,.bool z2,.slice i2 j2 o2]
      | 1=>v=.agg #[.bool p1,.slice a1 c1 l1,.bool p2,.slice a2 c2 l2]
      | 2=>RtIn w' v (q*ra.1) (62+(bsz a+3))
      | 3=>v=.agg #[.bool z1,.slice i1 j1 o1,.bool z2,.slice i2 j2 o2]
      | 4=>v=.agg #[.bool t1,.slice b1 d1 m1,.bool t2,.slice b2 d2 m2]
      | _=>RtIn w' v (q*ra.2) (62+(bsz a+3))) rfl rfl (by kernel_rfl) (by kernel_rfl) (by kernel_rfl) (by kernel_rfl) ?st ?_ ?_
     case st=>
      intro i9 v u1 u2 h hb
      match i9 with
      | 0 | 1 | 3 | 4=>exact h
      | 2 | 5 | _+6=>exact RtIn.below h hb
     refine zSc (zSo rfl ?s0) (zSc (zSo rfl ?s1) (zSc (zSo rfl ?s2) (zSc (zSo rfl ?s3) (zSc (zSo rfl ?s4) (zSc (zSo rfl ?s5) zSn)))))
     case s0 | s1 | s3 | s4=>
      intro xs w' hb hT K9 ae
      clear hT
      simp only[zFp,zAp,zLa,zLb,zLc,Nat.reduceAdd,zNz] at ae⊢
      have hw:=Flow.hwD aJ.out hb
      obtain ⟨y0,y1,y2,y3⟩:=cells4 hw bT.out.1
      obtain ⟨z0,z1,z2,z3⟩:=cells4 hw af.out.1
      obtain ⟨u0,u1,u2,u3⟩:=cells4 hw af.out.2
      go_simp
      exact ae _ _ (ZR _ _) rfl
     case s2=>
      intro xs w' hb hT K9 ae
      have h0:(xs 0)=.agg #[.bool z1,.slice i1 j1 o1,.bool z2,.slice i2 j2 o2]:=hT 0 (by kernel_rfl)
      have h1:(xs 1)=.agg #[.bool p1,.slice a1 c1 l1,.bool p2,.slice a2 c2 l2]:=hT 1 (by kernel_rfl)
      clear hT
      simp only[zFp,zAp,zLa,zLb,zLc,Nat.reduceAdd,zNz] at ae⊢
      have hw:=Flow.hwD aJ.out hb
      (try simp only[h0] at ae)
      (try simp only[h1] at ae)
      go_simp
      go_at_call 74
      refine (ratMul_any (bT.out.2.below hw) (al.out.1.below hw) (by omega) (by omega) (by have:=aZ.out; omega)).mono ?_
      rintro e w3 ⟨v3,rfl,au,ap⟩
      exact ae _ _ ap au
     case s5=>
      intro xs w' hb hT K9 ae
      have h3:(xs 3)=.agg #[.bool z1,.slice i1 j1 o1,.bool z2,.slice i2 j2 o2]:=hT 3 (by kernel_rfl)
      have h4:(xs 4)=.agg #[.bool t1,.slice b1 d1 m1,.bool t2,.slice b2 d2 m2]:=hT 4 (by kernel_rfl)
      clear hT
      simp only[zFp,zAp,zLa,zLb,zLc,Nat.reduceAdd,zNz] at ae⊢
      have hw:=Flow.hwD aJ.out hb
      (try simp only[h3] at ae)
      (try simp only[h4] at ae)
      go_simp
      go_at_call 74
      refine (ratMul_any (bT.out.2.below hw) (al.out.2.below hw) (by omega) (by omega) (by have:=aZ.out; omega)).mono ?_
      rintro e w3 ⟨v3,rfl,au,ap⟩
      exact ae _ _ ap au
     intro xs w' hb hT
     have hw:=Flow.hwD aJ.out hb
     have h2:RtIn w' (xs 2) (q*ra.1) (62+(bsz a+3)):=hT 2 (by rfl)
     have h5:RtIn w' (xs 5) (q*ra.2) (62+(bsz a+3)):=hT 5 (by rfl)
     clear hT
     simp only[zFp,zAp,zLa,zLb,zLc,Nat.reduceAdd,zNz,FlowR.restL,FlowR.orM,Bool.false_or]
     obtain ⟨aM,g7,i7,j7,aN,g8,i8,j8,e5⟩:=rt_shape h2
     obtain ⟨aX,g9,i9,j9,a0,gx,ix,jx,aU⟩:=rt_shape h5
     rw[e5] at h2
     rw[aU] at h5
     simp only[e5,aU]
     clear e5 aU
     have ai:=(hw.block bl (ZL af.out.1)).trans af.out.1
     have ah:=(hw.block bh (ZL af.out.2)).trans af.out.2
     obtain ⟨aF,aD,aA,aC⟩:=cells4 (ZR _ w') ai
     obtain ⟨aK,aL,aG,aI⟩:=cells4 (ZR _ w') ah
     obtain ⟨f0,ax,aw,ay⟩:=free4 ai
     obtain ⟨u0,u1,u2,u3⟩:=free4 ah
     have az:=ag.out.1
     have ak:=ag.out.1.symm
     have aj:=two_put ai ah ag.out.1 ag.out.2.2.2.1 ag.out.2.2.2.2 (aO.out.trans (hw.mono aO.out.size)) h2 h5
     have cV:=aj.but bk _ di.out.1 di.out.2 ((hw.block bk (ZL bT.out.1)).trans bT.out.1)
     have hf:=But.set4 (b:=bl) w' (.bool aM) (.slice g7 i7 j7) (.bool aN) (.slice g8 i8 j8)
     have b5:=(hf.block bh ag.out.1.symm (ZL ah)).trans ah
     have cP:=((bT.out.2.below hw).but (nodig4 ai) hf).but (nodig4 b5) (But.set4 (b:=bh) _ (.bool aX) (.slice g9 i9 j9) (.bool a0) (.slice gx ix jx))
     obtain ⟨w8,bO⟩:∃x,x=(((((((w'.setCell ⟨bl,0,none⟩ (.bool aM)).setCell ⟨bl,1,none⟩ (.slice g7 i7 j7)).setCell ⟨bl,2,none⟩ (.bool aN)).setCell ⟨bl,3,none⟩ (.slice g8 i8 j8)).setCell ⟨bh,0,none⟩ (.bool aX)).setCell ⟨bh,1,none⟩ (.slice g9 i9 j9)).setCell ⟨bh,2,none⟩ (.bool a0)).setCell ⟨bh,3,none⟩ (.slice gx ix jx):=⟨_,rfl⟩
     rw[←bO] at aj cV cP
     have am:=ZH aj
     have cK:=ZH (ZN cV cP)
     clear aj cV cP hf b5 ai ah h2 h5 hb hw af al bT aO aJ
     go_upto_region 19 with fail
     rw[←bO]
     clear bO az ak f0 ax aw ay u0 u1 u2 u3 aF aD aA aC aK aL aG aI
     obtain ⟨y0,y1,y2,y3⟩:=cells4 (ZR _ w8) cK.out.1
     go_wp2_with fail
     refine (ratSign_any cK.out.2).mono ?_
     rintro e wx ⟨rfl,br⟩
     clear y0 y1 y2 y3
     have bo:=ZH (ZN ((br.block bl (ZL am.out.kl)).trans am.out.kl) (ZN ((br.block bh (ZL am.out.kh)).trans am.out.kh) (ZN (am.out.r1.below br) (ZN (am.out.r2.below br) (am.out.below.trans (br.mono am.out.below.size))))))
     clear br am cK
     by_cases hq:q<0
     ·have e3:(cmpI q.num 0<0)=True:=eq_true ((cmp_ltz q).2 hq)
      have bH:=dm.out
      rw[if_pos hq,if_pos hq] at bH
      have cf:=ZH bH
      clear bH hq
      have ai:=bo.out.1
      have ah:=bo.out.2.1
      obtain ⟨aF,aD,aA,aC⟩:=cells4 (ZR _ wx) ai
      obtain ⟨aK,aL,aG,aI⟩:=cells4 (ZR _ wx) ah
      obtain ⟨f0,ax,aw,ay⟩:=free4 ai
      obtain ⟨u0,u1,u2,u3⟩:=free4 ah
      have az:=ag.out.1
      have ak:=ag.out.1.symm
      have aj:=two_put ai ah ag.out.1 ag.out.2.2.2.1 ag.out.2.2.2.2 bo.out.2.2.2.2 bo.out.2.2.2.1 bo.out.2.2.1
      obtain ⟨wy,cT⟩:∃x,x=(((((((wx.setCell ⟨bl,0,none⟩ (.bool aX)).setCell ⟨bl,1,none⟩ (.slice g9 i9 j9)).setCell ⟨bl,2,none⟩ (.bool a0)).setCell ⟨bl,3,none⟩ (.slice gx ix jx)).setCell ⟨bh,0,none⟩ (.bool aM)).setCell ⟨bh,1,none⟩ (.slice g7 i7 j7)).setCell ⟨bh,2,none⟩ (.bool aN)).setCell ⟨bh,3,none⟩ (.slice g8 i8 j8):=⟨_,rfl⟩
      rw[←cT] at aj
      have cs:=ZH aj
      clear aj ai ah
      go_upto_region 27 with fail
      rw[←cT]
      clear e3 cT f0 ax aw ay u0 u1 u2 u3 aF aD aA aC aK aL aG aI az ak
      have ai:=cs.out.kl
      have ah:=cs.out.kh
      obtain ⟨f0,ax,aw,ay⟩:=free4 ai
      obtain ⟨u0,u1,u2,u3⟩:=free4 ah
      obtain ⟨z0,z1,z2,z3⟩:=cells4 (ZR _ wy) ai
      obtain ⟨y0,y1,y2,y3⟩:=cells4 (ZR _ wy) ah
      have az:=ag.out.1
      have ak:=ag.out.1.symm
      have aj:=two_put ai ah ag.out.1 ag.out.2.2.2.1 ag.out.2.2.2.2 cs.out.below cs.out.r1 cs.out.r2
      have HF:=ZH aj.drew
      clear aj ai ah
      go_region
      go_wp2_with fail
      exact bodyPost_ret (v:=.tuple #[.agg #[.bool aX,.slice g9 i9 j9,.bool a0,.slice gx ix jx],.agg #[.bool aM,.slice g7 i7 j7,.bool aN,.slice g8 i8 j8]]) (by simp[results,Tryz.results52,go_sem,z0,z1,z2,z3,y0,y1,y2,y3]) rfl ⟨HF.out.below,_,_,rfl,by rw[cf.out,aZ.out.2]; exact HF.out.r1,by rw[cf.out,aZ.out.2]; exact HF.out.r2⟩
     ·have e3:(cmpI q.num 0<0)=False:=eq_false (fun h=>hq ((cmp_ltz q).1 h))
      have bH:=dm.out
      rw[if_neg hq,if_neg hq] at bH
      have cf:=ZH bH
      clear bH hq
      go_upto_region 27 with fail
      clear e3
      have ai:=bo.out.1
      have ah:=bo.out.2.1
      obtain ⟨f0,ax,aw,ay⟩:=free4 ai
      obtain ⟨u0,u1,u2,u3⟩:=free4 ah
      obtain ⟨z0,z1,z2,z3⟩:=cells4 (ZR _ wx) ai
      obtain ⟨y0,y1,y2,y3⟩:=cells4 (ZR _ wx) ah
      have az:=ag.out.1
      have ak:=ag.out.1.symm
      have aj:=two_put ai ah ag.out.1 ag.out.2.2.2.1 ag.out.2.2.2.2 bo.out.2.2.2.2 bo.out.2.2.1 bo.out.2.2.2.1
      have HF:=ZH aj.drew
      clear aj ai ah
      go_region
      go_wp2_with fail
      exact bodyPost_ret (v:=.tuple #[.agg #[.bool aM,.slice g7 i7 j7,.bool aN,.slice g8 i8 j8],.agg #[.bool aX,.slice g9 i9 j9,.bool a0,.slice gx ix jx]]) (by simp[results,Tryz.results52,go_sem,z0,z1,z2,z3,y0,y1,y2,y3]) rfl ⟨HF.out.below,_,_,rfl,by rw[cf.out,aZ.out.2]; exact HF.out.r1,by rw[cf.out,aZ.out.2]; exact HF.out.r2⟩
    ·have e2:(o==2)=false:=by simpa using h2
     by_cases h5:o=5
     ·subst h5
      have bC:=ZH (show ∃a,x=.abs a from by
       have:=HN.out.2.2.2.2.2
       cases x with
       | abs a=>exact ⟨a,rfl⟩
       | _=>exact absurd this (by simp[opG]))
      obtain ⟨a,rfl⟩:=bC.out
      clear bC h2
      have bv:combTo 5 (boxes D) (argG (.abs a)) (argG (.abs a)).length=bnd (boxes D) a:=combTo_one 5 (boxes D) (l:=[a]) (by simp)
      have bI:2+bszs (argG (.abs a))≤bsz (.abs a):=asz_le (by simp[opG])
      rw[bv] at ao
      have al:=ZH (ZN (ao.out.1.more bI) (ao.out.2.more bI))
      have ca:=ZH (cy.out.2.2 a)
      have aZ:=ZH (show 2≤bsz (.abs a)∧bsz (.abs a)≤100000 from ⟨bsz_two _,bE.out.1.size⟩)
      have af:=ZH ar.out
      have aO:=ZH bJ.out
      obtain ⟨ra,bU⟩:∃p,p=bnd (boxes D) a:=⟨_,rfl⟩
      rw[←bU] at al ca
      have cz:=ZH bU
      obtain ⟨KA,cO⟩:∃p,p=bsz (.abs a):=⟨_,rfl⟩
      rw[←cO] at al aZ
      have cx:=ZH cO
      clear bv bI ar ao bJ bQ bU cO
      go_upto_region 22 with fail
      clear x0 x1 x2 x3 x4
      refine FlowX.wp_region_mix (fun a b=>Below a.heap.size a b) (fun _ _ h=>h) [0,1,2,3,4,5] [true,true,true,true,true,true,false,false] (fun j9=>[4,5].contains j9) (fun i9 v w'=>match i9 with
       | 0=>v=.agg #[.bool p1,.slice a1 c1 l1,.bool p2,.slice a2 c2 l2]
       | 1=>RtIn w' v (ab ra.1) KA
       | 2=>v=.agg #[.bool t1,.slice b1 d1 m1,.bool t2,.slice b2 d2 m2]
       | 3=>RtIn w' v (ab ra.2) KA
       | 4=>True
       | _=>True) (FlowX.TwoBox wr.heap.size #[.bool false,.slice none 0 0,.bool false,.slice none 0 0] 43 4 5) rfl rfl (by kernel_rfl) (by kernel_rfl) (by kernel_rfl) (by kernel_rfl) ?st ?hX ?hX0 ?_ ?_
      case st=>
       intro i9 v u1 u2 h hb
       match i9 with
       | 0 | 2 | 4 | 5 | _+6=>exact h
       | 1 | 3=>exact RtIn.below h hb
      case hX=>exact fun L xs w L' xs' w' h he hb=>h.below (he 4 rfl) (he 5 rfl) hb
      case hX0=>exact fun xs=>FlowX.TwoBox.init _ _
      refine Flow.Steps.cons (.inl ⟨rfl,FlowX.StepS.of rfl ?s0⟩) (Flow.Steps.cons (.inl ⟨rfl,FlowX.StepS.of rfl ?s1⟩) (Flow.Steps.cons (.inl ⟨rfl,FlowX.StepS.of rfl ?s2⟩) (Flow.Steps.cons (.inl ⟨rfl,FlowX.StepS.of rfl ?s3⟩) (Flow.Steps.cons (.inr ⟨rfl,FlowX.StepX.of rfl ?s4⟩) (Flow.Steps.cons (.inr ⟨rfl,FlowX.StepX.of rfl ?s5⟩) zSn)))))
      case s0 | s2=>
       intro L9 xs w' hb hT bq K9 ae
       clear hT
       simp only[zFp,zAp,zLa,zLb,zLc,Nat.reduceAdd,zNz] at ae⊢
       have hw:=Flow.hwD bt.out hb
       obtain ⟨y0,y1,y2,y3⟩:=cells4 hw af.out.1
       obtain ⟨z0,z1,z2,z3⟩:=cells4 hw af.out.2
       go_simp
       exact ae _ _ (ZR _ _) rfl
      case s1=>
       intro L9 xs w' hb hT bq K9 ae
       have h0:(xs 0)=.agg #[.bool p1,.slice a1 c1 l1,.bool p2,.slice a2 c2 l2]:=(hT 0 (by kernel_rfl)).2
       clear hT
       simp only[zFp,zAp,zLa,zLb,zLc,Nat.reduceAdd,zNz] at ae⊢
       have hw:=Flow.hwD bt.out hb
       (try simp only[h0] at ae)
       go_simp
       go_at_call 103
       refine (pabs_any (al.out.1.below hw)).mono ?_
       rintro e w3 ⟨v3,rfl,au,ap⟩
       exact ae _ _ ap au
      case s3=>
       intro L9 xs w' hb hT bq K9 ae
       have h2:(xs 2)=.agg #[.bool t1,.slice b1 d1 m1,.bool t2,.slice b2 d2 m2]:=(hT 2 (by kernel_rfl)).2
       clear hT
       simp only[zFp,zAp,zLa,zLb,zLc,Nat.reduceAdd,zNz] at ae⊢
       have hw:=Flow.hwD bt.out hb
       (try simp only[h2] at ae)
       go_simp
       go_at_call 103
       refine (pabs_any (al.out.2.below hw)).mono ?_
       rintro e w3 ⟨v3,rfl,au,ap⟩
       exact ae _ _ ap au
      case s4=>
       intro L9 xs w' hb hT bq hL9 K9 ae
       clear hT
       simp only[zFp,zAp,zLa,zLb,zLc,Nat.reduceAdd,zNz] at ae⊢
       have hw:=Flow.hwD bt.out hb
       go_simp
       exact ae _ _ (hb.alloc hb.size _) ((ZR _ _).alloc (Nat.le_refl _) _) trivial (bq.make1 hb.size (by decide))
      case s5=>
       intro L9 xs w' hb hT bq hL9 K9 ae
       clear hT
       simp only[zFp,zAp,zLa,zLb,zLc,Nat.reduceAdd,zNz] at ae⊢
       have hw:=Flow.hwD bt.out hb
       go_simp
       exact ae _ _ (hb.alloc hb.size _) ((ZR _ _).alloc (Nat.le_refl _) _) trivial (bq.make2 hb.size (by decide))
      intro xs w' hb hT bq
      have hw:=Flow.hwD bt.out hb
      have h1:RtIn w' (xs 1) (ab ra.1) KA:=hT 1 (by rfl)
      have h3:RtIn w' (xs 3) (ab ra.2) KA:=hT 3 (by rfl)
      clear hT
      simp only[zFp,zAp,zLa,zLb,zLc,Nat.reduceAdd,zNz,FlowR.restL]
      obtain ⟨ba,bb,e8,e9,az,du,dl,ka,kb⟩:=bq.both (by rfl) (by rfl)
      obtain ⟨a7,g3,i3,j3,a5,g4,i4,j4,e3⟩:=rt_shape h1
      obtain ⟨a3,g5,i5,j5,aY,g6,i6,j6,e7⟩:=rt_shape h3
      rw[e3] at h1
      rw[e7] at h3
      simp only[e3,e7,e8,e9]
      clear e3 e7 e8 e9 bq
      obtain ⟨aF,aD,aA,aC⟩:=cells4 (ZR _ w') ka
      obtain ⟨aK,aL,aG,aI⟩:=cells4 (ZR _ w') kb
      obtain ⟨f0,ax,aw,ay⟩:=free4 ka
      obtain ⟨u0,u1,u2,u3⟩:=free4 kb
      have ak:=az.symm
      have cq:w.heap.size≤ba:=Nat.le_trans aO.out.size du
      have cm:w.heap.size≤bb:=Nat.le_trans aO.out.size dl
      have aj:=two_put ka kb az cq cm (aO.out.trans (hw.mono aO.out.size)) h1 h3
      have cL:=aj.but bl _ (by have:=ZL af.out.1; omega) (by have:=ZL af.out.1; omega) ((hw.block bl (ZL af.out.1)).trans af.out.1)
      have c5:=aj.but bh _ (by have:=ZL af.out.2; omega) (by have:=ZL af.out.2; omega) ((hw.block bh (ZL af.out.2)).trans af.out.2)
      have hf:=But.set4 (b:=ba) w' (.bool a7) (.slice g3 i3 j3) (.bool a5) (.slice g4 i4 j4)
      have b5:=(hf.block bb ak (ZL kb)).trans kb
      have cY:=ZN (((al.out.1.below hw).but (nodig4 ka) hf).but (nodig4 b5) (But.set4 (b:=bb) _ (.bool a3) (.slice g5 i5 j5) (.bool aY) (.slice g6 i6 j6))) (((al.out.2.below hw).but (nodig4 ka) hf).but (nodig4 b5) (But.set4 (b:=bb) _ (.bool a3) (.slice g5 i5 j5) (.bool aY) (.slice g6 i6 j6)))
      have b9:bl<ba∧bl<bb∧bh<ba∧bh<bb:=by have h1:=ZL af.out.1; have h2:=ZL af.out.2; omega
      obtain ⟨w8,bO⟩:∃x,x=(((((((w'.setCell ⟨ba,0,none⟩ (.bool a7)).setCell ⟨ba,1,none⟩ (.slice g3 i3 j3)).setCell ⟨ba,2,none⟩ (.bool a5)).setCell ⟨ba,3,none⟩ (.slice g4 i4 j4)).setCell ⟨bb,0,none⟩ (.bool a3)).setCell ⟨bb,1,none⟩ (.slice g5 i5 j5)).setCell ⟨bb,2,none⟩ (.bool aY)).setCell ⟨bb,3,none⟩ (.slice g6 i6 j6):=⟨_,rfl⟩
      rw[←bO] at aj cL c5 cY
      have am:=ZH (ZN aj (ZN cL (ZN c5 (ZN cY b9))))
      clear aj cL c5 cY b9 hf b5 h1 h3 ka kb du dl cq cm hb hw af al aO bt
      go_upto_region 23 with fail
      rw[←bO]
      clear bO az ak f0 ax aw ay u0 u1 u2 u3 aF aD aA aC aK aL aG aI
      obtain ⟨aF,aD,aA,aC⟩:=cells4 (ZR _ w8) am.out.1.kl
      obtain ⟨aK,aL,aG,aI⟩:=cells4 (ZR _ w8) am.out.1.kh
      go_wp2_with fail
      refine (plesser_any am.out.1.r1 am.out.1.r2 (by have:=aZ.out; omega) (by have:=aZ.out; omega)).mono ?_
      rintro e wy ⟨vy,rfl,cF,dd⟩
      obtain ⟨aM,g7,i7,j7,aN,g8,i8,j8,rfl⟩:=rt_shape cF
      have de:=ZH cF
      have cw:=ZH dd
      clear cF dd aF aD aA aC aK aL aG aI
      go_upto_region 24 with fail
      obtain ⟨wz,bm,dg,da,cX,kz⟩:=new_box wy #[.bool aM,.slice g7 i7 j7,.bool aN,.slice g8 i8 j8] 43
      rw[←dg,←da]
      have bj:=cw.out.trans (cX.mono cw.out.size)
      have a6:=ZH (show wz.heap[ba]?=some (.cells #[.bool a7,.slice g3 i3 j3,.bool a5,.slice g4 i4 j4] 43 (0,0))∧wz.heap[bb]?=some (.cells #[.bool a3,.slice g5 i5 j5,.bool aY,.slice g6 i6 j6] 43 (0,0))∧wz.heap[bm]?=some (.cells #[.bool aM,.slice g7 i7 j7,.bool aN,.slice g8 i8 j8] 43 (0,0))∧wz.heap[bl]?=some (.cells #[.bool p1,.slice a1 c1 l1,.bool p2,.slice a2 c2 l2] 43 (0,0))∧wz.heap[bh]?=some (.cells #[.bool t1,.slice b1 d1 m1,.bool t2,.slice b2 d2 m2] 43 (0,0)) from ⟨(bj.block ba (ZL am.out.1.kl)).trans am.out.1.kl,(bj.block bb (ZL am.out.1.kh)).trans am.out.1.kh,kz,(bj.block bl (ZL am.out.2.1)).trans am.out.2.1,(bj.block bh (ZL am.out.2.2.1)).trans am.out.2.2.1⟩)
      have b6:=ZH (ZN (am.out.1.r1.below bj) (ZN (am.out.1.r2.below bj) (ZN (de.out.below cX) (ZN (am.out.2.2.2.1.1.below bj) (am.out.2.2.2.1.2.below bj)))))
      have cI:=ZH (am.out.1.below.trans (bj.mono am.out.1.below.size))
      have cj:=ZH (show w.heap.size≤bm∧ba≠bm∧bb≠bm∧bl≠bm∧bh≠bm by
       have h1:=ZL am.out.1.kl
       have h2:=ZL am.out.1.kh
       have h3:=am.out.1.below.size
       have h4:=cw.out.size
       have h5:=am.out.2.2.2.2
       omega)
      have bK:=ZH (ZR wz.heap.size wz)
      clear dg da cX kz bj am de cw
      obtain ⟨S1,cN⟩:∃s,s=cmpI ra.1.num 0:=⟨_,rfl⟩
      obtain ⟨S2,cW⟩:∃s,s=cmpI ra.2.num 0:=⟨_,rfl⟩
      obtain ⟨SP,bR⟩:∃s,s=S1*S2:=⟨_,rfl⟩
      have hSP:IntKind.i64.wrap (S1*S2)=SP:=by
       rw[bR]
       have h1:=sign_cases ra.1
       have h2:=sign_cases ra.2
       rw[←cN] at h1
       rw[←cW] at h2
       rcases h1 with h1 | h1 | h1<;>rcases h2 with h2 | h2 | h2<;>rw[h1,h2]<;>rfl
      have HS:=ZH (ZN cN (ZN cW bR))
      clear cN cW bR
      refine FlowR.wp_region_sel (fun a b=>Below a.heap.size a b) (fun a=>ZR _ a) (fun _ _ _ h k=>h.trans (k.mono h.size)) [0,1,2,3,4,5] [false,false,false,false,false,false] [true,true,true,true,true,true] (fun i9 v w'=>match i9 with
       | 0=>v=.agg #[.bool p1,.slice a1 c1 l1,.bool p2,.slice a2 c2 l2]
       | 1=>v=.int .i64 S1
       | 2=>v=.agg #[.bool t1,.slice b1 d1 m1,.bool t2,.slice b2 d2 m2]
       | 3=>v=.int .i64 S2
       | 4=>v=.int .i64 SP
       | _=>v=.bool (decide (SP≤0))) rfl rfl (by kernel_rfl) (by kernel_rfl) (by kernel_rfl) (by kernel_rfl) ?st ?_ ?_
      case st=>
       intro i9 v u1 u2 h hb
       match i9 with
       | 0 | 1 | 2 | 3 | 4 | 5 | _+6=>exact h
      refine zSc (zSo rfl ?s0) (zSc (zSo rfl ?s1) (zSc (zSo rfl ?s2) (zSc (zSo rfl ?s3) (zSc (zSo rfl ?s4) (zSc (zSo rfl ?s5) zSn)))))
      case s0 | s2=>
       intro xs w' hb hT K9 ae
       clear hT
       simp only[zFp,zAp,zLa,zLb,zLc,Nat.reduceAdd,zNz] at ae⊢
       have hw:=Flow.hwD bK.out hb
       obtain ⟨y0,y1,y2,y3⟩:=cells4 hw a6.out.2.2.2.1
       obtain ⟨z0,z1,z2,z3⟩:=cells4 hw a6.out.2.2.2.2
       go_simp
       exact ae _ _ (ZR _ _) rfl
      case s1=>
       intro xs w' hb hT K9 ae
       have h0:(xs 0)=.agg #[.bool p1,.slice a1 c1 l1,.bool p2,.slice a2 c2 l2]:=hT 0 (by kernel_rfl)
       clear hT
       simp only[zFp,zAp,zLa,zLb,zLc,Nat.reduceAdd,zNz] at ae⊢
       have hw:=Flow.hwD bK.out hb
       (try simp only[h0] at ae)
       go_simp
       go_at_call 28
       refine (ratSign_any (b6.out.2.2.2.1.below hw)).mono ?_
       rintro e w3 ⟨cb,ap⟩
       rw[←HS.out.1] at cb
       subst cb
       exact ae _ _ ap rfl
      case s3=>
       intro xs w' hb hT K9 ae
       have h2:(xs 2)=.agg #[.bool t1,.slice b1 d1 m1,.bool t2,.slice b2 d2 m2]:=hT 2 (by kernel_rfl)
       clear hT
       simp only[zFp,zAp,zLa,zLb,zLc,Nat.reduceAdd,zNz] at ae⊢
       have hw:=Flow.hwD bK.out hb
       (try simp only[h2] at ae)
       go_simp
       go_at_call 28
       refine (ratSign_any (b6.out.2.2.2.2.below hw)).mono ?_
       rintro e w3 ⟨cb,ap⟩
       rw[←HS.out.2.1] at cb
       subst cb
       exact ae _ _ ap rfl
      case s4=>
       intro xs w' hb hT K9 ae
       have h1:(xs 1)=.int .i64 S1:=hT 1 (by kernel_rfl)
       have h3:(xs 3)=.int .i64 S2:=hT 3 (by kernel_rfl)
       clear hT
       simp only[zFp,zAp,zLa,zLb,zLc,Nat.reduceAdd,zNz] at ae⊢
       have hw:=Flow.hwD bK.out hb
       (try simp only[h1] at ae)
       (try simp only[h3] at ae)
       go_simp
       exact ae _ _ (ZR _ _) rfl
      case s5=>
       intro xs w' hb hT K9 ae
       have h4:(xs 4)=.int .i64 SP:=hT 4 (by kernel_rfl)
       clear hT
       simp only[zFp,zAp,zLa,zLb,zLc,Nat.reduceAdd,zNz] at ae⊢
       have hw:=Flow.hwD bK.out hb
       (try simp only[h4] at ae)
       go_simp
       exact ae _ _ (ZR _ _) rfl
      intro xs w' hb hT
      have hw:=Flow.hwD bK.out hb
      have h5:(xs 5)=.bool (decide (SP≤0)):=hT 5 (by rfl)
      clear hT
      simp only[zFp,zAp,zLa,zLb,zLc,Nat.reduceAdd,zNz,FlowR.restL,FlowR.orM,Bool.false_or]
      obtain ⟨w9,cE⟩:∃x,x=w':=⟨_,rfl⟩
      have aq:=ZH (show (w9.heap[ba]?=some (.cells #[.bool a7,.slice g3 i3 j3,.bool a5,.slice g4 i4 j4] 43 (0,0))∧w9.heap[bb]?=some (.cells #[.bool a3,.slice g5 i5 j5,.bool aY,.slice g6 i6 j6] 43 (0,0))∧w9.heap[bm]?=some (.cells #[.bool aM,.slice g7 i7 j7,.bool aN,.slice g8 i8 j8] 43 (0,0))∧w9.heap[bl]?=some (.cells #[.bool p1,.slice a1 c1 l1,.bool p2,.slice a2 c2 l2] 43 (0,0))∧w9.heap[bh]?=some (.cells #[.bool t1,.slice b1 d1 m1,.bool t2,.slice b2 d2 m2] 43 (0,0)))∧(RtIn w9 (.agg #[.bool a7,.slice g3 i3 j3,.bool a5,.slice g4 i4 j4]) (ab ra.1) KA∧RtIn w9 (.agg #[.bool a3,.slice g5 i5 j5,.bool aY,.slice g6 i6 j6]) (ab ra.2) KA∧RtIn w9 (.agg #[.bool aM,.slice g7 i7 j7,.bool aN,.slice g8 i8 j8]) (mn (ab ra.1) (ab ra.2)) KA)∧Below w.heap.size w w9 from by
       rw[cE]
       exact ⟨⟨(hw.block ba (ZL a6.out.1)).trans a6.out.1,(hw.block bb (ZL a6.out.2.1)).trans a6.out.2.1,(hw.block bm (ZL a6.out.2.2.1)).trans a6.out.2.2.1,(hw.block bl (ZL a6.out.2.2.2.1)).trans a6.out.2.2.2.1,(hw.block bh (ZL a6.out.2.2.2.2)).trans a6.out.2.2.2.2⟩,⟨b6.out.1.below hw,b6.out.2.1.below hw,b6.out.2.2.1.below hw⟩,cI.out.trans (hw.mono cI.out.size)⟩)
      have bG:=ZH (ZR w9.heap.size w9)
      have ck:=signs_across ca.out
      rw[←HS.out.1,←HS.out.2.1,←HS.out.2.2] at ck
      rw[←cE]
      simp only[h5]
      clear cE h5 hw hb hSP HS a6 b6 cI bK
      obtain ⟨tz,bp⟩:∃b,b=decide (SP≤0):=⟨_,rfl⟩
      rw[←bp]
      by_cases hz:SP≤0
      ·obtain rfl:tz=true:=by rw[bp]; exact ZT hz
       have cu:=ZH (ck.1 hz)
       clear ck bp hz
       have km:=aq.out.1.2.2.1
       have aj:=rat_put km cj.out.1 aq.out.2.2 (zero_rt w9 KA)
       obtain ⟨aF,aD,aA,aC⟩:=cells4 (ZR _ w9) km
       obtain ⟨f0,ax,aw,ay⟩:=free4 km
       obtain ⟨wq,cD⟩:∃x,x=(((w9.setCell ⟨bm,0,none⟩ (.bool false)).setCell ⟨bm,1,none⟩ (.slice none 0 0)).setCell ⟨bm,2,none⟩ (.bool false)).setCell ⟨bm,3,none⟩ (.slice none 0 0):=⟨_,rfl⟩
       have cS:=ZN ((aj.but.block ba cj.out.2.1 (ZL aq.out.1.1)).trans aq.out.1.1) (ZN ((aj.but.block bb cj.out.2.2.1 (ZL aq.out.1.2.1)).trans aq.out.1.2.1) (ZN aj.block (ZN ((aj.but.block bl cj.out.2.2.2.1 (ZL aq.out.1.2.2.2.1)).trans aq.out.1.2.2.2.1) (ZN ((aj.but.block bh cj.out.2.2.2.2 (ZL aq.out.1.2.2.2.2)).trans aq.out.1.2.2.2.2) (ZN (aq.out.2.1.1.but (nodig4 km) aj.but) (ZN (aq.out.2.1.2.1.but (nodig4 km) aj.but) (ZN aj.rt aj.below)))))))
       rw[←cD] at cS
       have bd:=ZH cS
       have c6:=ZH (ZR wq.heap.size wq)
       clear cS aj km
       go_upto_region 26 with fail
       rw[←cD]
       clear cD f0 ax aw ay aF aD aA aC
       refine FlowR.wp_region_sel (fun a b=>Below a.heap.size a b) (fun a=>ZR _ a) (fun _ _ _ h k=>h.trans (k.mono h.size)) [0,1,2,3] [false,false,false,false,false,false] [true,true,true,true,false,false] (fun i9 v w'=>match i9 with
        | 0=>v=.agg #[.bool false,.slice none 0 0,.bool false,.slice none 0 0]
        | 1=>v=.agg #[.bool a7,.slice g3 i3 j3,.bool a5,.slice g4 i4 j4]
        | 2=>v=.agg #[.bool a3,.slice g5 i5 j5,.bool aY,.slice g6 i6 j6]
        | _=>RtIn w' v (mx (ab ra.1) (ab ra.2)) KA) rfl rfl (by kernel_rfl) (by kernel_rfl) (by kernel_rfl) (by kernel_rfl) ?st ?_ ?_
       case st=>
        intro i9 v u1 u2 h hb
        match i9 with
        | 0 | 1 | 2=>exact h
        | 3 | _+4=>exact RtIn.below h hb
       refine zSc (zSo rfl ?s0) (zSc (zSo rfl ?s1) (zSc (zSo rfl ?s2) (zSc (zSo rfl ?s3) zSn)))
       case s0 | s1 | s2=>
        intro xs w' hb hT K9 ae
        clear hT
        simp only[zFp,zAp,zLa,zLb,zLc,Nat.reduceAdd,zNz] at ae⊢
        have hw:=Flow.hwD c6.out hb
        obtain ⟨y0,y1,y2,y3⟩:=cells4 hw bd.out.2.2.1
        obtain ⟨z0,z1,z2,z3⟩:=cells4 hw bd.out.1
        obtain ⟨u0,u1,u2,u3⟩:=cells4 hw bd.out.2.1
        go_simp
        exact ae _ _ (ZR _ _) rfl
       case s3=>
        intro xs w' hb hT K9 ae
        have h1:(xs 1)=.agg #[.bool a7,.slice g3 i3 j3,.bool a5,.slice g4 i4 j4]:=hT 1 (by kernel_rfl)
        have h2:(xs 2)=.agg #[.bool a3,.slice g5 i5 j5,.bool aY,.slice g6 i6 j6]:=hT 2 (by kernel_rfl)
        clear hT
        simp only[zFp,zAp,zLa,zLb,zLc,Nat.reduceAdd,zNz] at ae⊢
        have hw:=Flow.hwD c6.out hb
        (try simp only[h1] at ae)
        (try simp only[h2] at ae)
        go_simp
        go_at_call 106
        refine (pgreater_any (bd.out.2.2.2.2.2.1.below hw) (bd.out.2.2.2.2.2.2.1.below hw) (by have:=aZ.out; omega) (by have:=aZ.out; omega)).mono ?_
        rintro e w3 ⟨v3,rfl,au,ap⟩
        exact ae _ _ ap au
       intro xs w' hb hT
       have hw:=Flow.hwD c6.out hb
       have h0:(xs 0)=.agg #[.bool false,.slice none 0 0,.bool false,.slice none 0 0]:=hT 0 (by rfl)
       have h3:RtIn w' (xs 3) (mx (ab ra.1) (ab ra.2)) KA:=hT 3 (by rfl)
       clear hT
       simp only[zFp,zAp,zLa,zLb,zLc,Nat.reduceAdd,zNz,FlowR.restL,FlowR.orM,Bool.false_or]
       obtain ⟨aX,g9,i9,j9,a0,gx,ix,jx,e5⟩:=rt_shape h3
       rw[e5] at h3
       simp only[h0,e5]
       clear e5 h0
       have ai:=(hw.block bl (ZL bd.out.2.2.2.1)).trans bd.out.2.2.2.1
       have ah:=(hw.block bh (ZL bd.out.2.2.2.2.1)).trans bd.out.2.2.2.2.1
       obtain ⟨aF,aD,aA,aC⟩:=cells4 (ZR _ w') ai
       obtain ⟨aK,aL,aG,aI⟩:=cells4 (ZR _ w') ah
       obtain ⟨f0,ax,aw,ay⟩:=free4 ai
       obtain ⟨u0,u1,u2,u3⟩:=free4 ah
       have az:=ag.out.1
       have ak:=ag.out.1.symm
       have aj:=two_put ai ah ag.out.1 ag.out.2.2.2.1 ag.out.2.2.2.2 (bd.out.2.2.2.2.2.2.2.2.trans (hw.mono bd.out.2.2.2.2.2.2.2.2.size)) (bd.out.2.2.2.2.2.2.2.1.below hw) h3
       obtain ⟨wd,bP⟩:∃x,x=(((((((w'.setCell ⟨bl,0,none⟩ (.bool false)).setCell ⟨bl,1,none⟩ (.slice none 0 0)).setCell ⟨bl,2,none⟩ (.bool false)).setCell ⟨bl,3,none⟩ (.slice none 0 0)).setCell ⟨bh,0,none⟩ (.bool aX)).setCell ⟨bh,1,none⟩ (.slice g9 i9 j9)).setCell ⟨bh,2,none⟩ (.bool a0)).setCell ⟨bh,3,none⟩ (.slice gx ix jx):=⟨_,rfl⟩
       rw[←bP] at aj
       have HD:=ZH aj
       clear aj ai ah h3 hb hw
       go_upto_region 27 with fail
       rw[←bP]
       clear bP az ak f0 ax aw ay u0 u1 u2 u3 aF aD aA aC aK aL aG aI
       have ai:=HD.out.kl
       have ah:=HD.out.kh
       obtain ⟨f0,ax,aw,ay⟩:=free4 ai
       obtain ⟨u0,u1,u2,u3⟩:=free4 ah
       obtain ⟨z0,z1,z2,z3⟩:=cells4 (ZR _ wd) ai
       obtain ⟨y0,y1,y2,y3⟩:=cells4 (ZR _ wd) ah
       have az:=ag.out.1
       have ak:=ag.out.1.symm
       have aj:=two_put ai ah ag.out.1 ag.out.2.2.2.1 ag.out.2.2.2.2 HD.out.below HD.out.r1 HD.out.r2
       have HF:=ZH aj.drew
       clear aj ai ah
       go_region
       go_wp2_with fail
       exact bodyPost_ret (v:=.tuple #[.agg #[.bool false,.slice none 0 0,.bool false,.slice none 0 0],.agg #[.bool aX,.slice g9 i9 j9,.bool a0,.slice gx ix jx]]) (by simp[results,Tryz.results52,go_sem,z0,z1,z2,z3,y0,y1,y2,y3]) rfl ⟨HF.out.below,_,_,rfl,by rw[bnd_abs,←cz.out,if_pos cu.out,←cx.out]; exact HF.out.r1,by rw[bnd_abs,←cz.out,if_pos cu.out,←cx.out]; exact HF.out.r2⟩
      ·obtain rfl:tz=false:=by rw[bp]; exact ZU hz
       have cu:=ZH (show ¬(ra.1≤0∧0≤ra.2) from fun h=>hz (ck.2 h))
       clear ck bp hz
       go_upto_region 26 with fail
       refine FlowR.wp_region_sel (fun a b=>Below a.heap.size a b) (fun a=>ZR _ a) (fun _ _ _ h k=>h.trans (k.mono h.size)) [0,1,2,3] [false,false,false,false,false,false] [true,true,true,true,false,false] (fun i9 v w'=>match i9 with
        | 0=>v=.agg #[.bool aM,.slice g7 i7 j7,.bool aN,.slice g8 i8 j8]
        | 1=>v=.agg #[.bool a7,.slice g3 i3 j3,.bool a5,.slice g4 i4 j4]
        | 2=>v=.agg #[.bool a3,.slice g5 i5 j5,.bool aY,.slice g6 i6 j6]
        | _=>RtIn w' v (mx (ab ra.1) (ab ra.2)) KA) rfl rfl (by kernel_rfl) (by kernel_rfl) (by kernel_rfl) (by kernel_rfl) ?st ?_ ?_
       case st=>
        intro i9 v u1 u2 h hb
        match i9 with
        | 0 | 1 | 2=>exact h
        | 3 | _+4=>exact RtIn.below h hb
       refine zSc (zSo rfl ?s0) (zSc (zSo rfl ?s1) (zSc (zSo rfl ?s2) (zSc (zSo rfl ?s3) zSn)))
       case s0 | s1 | s2=>
        intro xs w' hb hT K9 ae
        clear hT
        simp only[zFp,zAp,zLa,zLb,zLc,Nat.reduceAdd,zNz] at ae⊢
        have hw:=Flow.hwD bG.out hb
        obtain ⟨y0,y1,y2,y3⟩:=cells4 hw aq.out.1.2.2.1
        obtain ⟨z0,z1,z2,z3⟩:=cells4 hw aq.out.1.1
        obtain ⟨u0,u1,u2,u3⟩:=cells4 hw aq.out.1.2.1
        go_simp
        exact ae _ _ (ZR _ _) rfl
       case s3=>
        intro xs w' hb hT K9 ae
        have h1:(xs 1)=.agg #[.bool a7,.slice g3 i3 j3,.bool a5,.slice g4 i4 j4]:=hT 1 (by kernel_rfl)
        have h2:(xs 2)=.agg #[.bool a3,.slice g5 i5 j5,.bool aY,.slice g6 i6 j6]:=hT 2 (by kernel_rfl)
        clear hT
        simp only[zFp,zAp,zLa,zLb,zLc,Nat.reduceAdd,zNz] at ae⊢
        have hw:=Flow.hwD bG.out hb
        (try simp only[h1] at ae)
        (try simp only[h2] at ae)
        go_simp
        go_at_call 106
        refine (pgreater_any (aq.out.2.1.1.below hw) (aq.out.2.1.2.1.below hw) (by have:=aZ.out; omega) (by have:=aZ.out; omega)).mono ?_
        rintro e w3 ⟨v3,rfl,au,ap⟩
        exact ae _ _ ap au
       intro xs w' hb hT
       have hw:=Flow.hwD bG.out hb
       have h0:(xs 0)=.agg #[.bool aM,.slice g7 i7 j7,.bool aN,.slice g8 i8 j8]:=hT 0 (by rfl)
       have h3:RtIn w' (xs 3) (mx (ab ra.1) (ab ra.2)) KA:=hT 3 (by rfl)
       clear hT
       simp only[zFp,zAp,zLa,zLb,zLc,Nat.reduceAdd,zNz,FlowR.restL,FlowR.orM,Bool.false_or]
       obtain ⟨aX,g9,i9,j9,a0,gx,ix,jx,e5⟩:=rt_shape h3
       rw[e5] at h3
       simp only[h0,e5]
       clear e5 h0
       have ai:=(hw.block bl (ZL aq.out.1.2.2.2.1)).trans aq.out.1.2.2.2.1
       have ah:=(hw.block bh (ZL aq.out.1.2.2.2.2)).trans aq.out.1.2.2.2.2
       obtain ⟨aF,aD,aA,aC⟩:=cells4 (ZR _ w') ai
       obtain ⟨aK,aL,aG,aI⟩:=cells4 (ZR _ w') ah
       obtain ⟨f0,ax,aw,ay⟩:=free4 ai
       obtain ⟨u0,u1,u2,u3⟩:=free4 ah
       have az:=ag.out.1
       have ak:=ag.out.1.symm
       have aj:=two_put ai ah ag.out.1 ag.out.2.2.2.1 ag.out.2.2.2.2 (aq.out.2.2.trans (hw.mono aq.out.2.2.size)) (aq.out.2.1.2.2.below hw) h3
       obtain ⟨wd,bP⟩:∃x,x=(((((((w'.setCell ⟨bl,0,none⟩ (.bool aM)).setCell ⟨bl,1,none⟩ (.slice g7 i7 j7)).setCell ⟨bl,2,none⟩ (.bool aN)).setCell ⟨bl,3,none⟩ (.slice g8 i8 j8)).setCell ⟨bh,0,none⟩ (.bool aX)).setCell ⟨bh,1,none⟩ (.slice g9 i9 j9)).setCell ⟨bh,2,none⟩ (.bool a0)).setCell ⟨bh,3,none⟩ (.slice gx ix jx):=⟨_,rfl⟩
       rw[←bP] at aj
       have HD:=ZH aj
       clear aj ai ah h3 hb hw
       go_upto_region 27 with fail
       rw[←bP]
       clear bP az ak f0 ax aw ay u0 u1 u2 u3 aF aD aA aC aK aL aG aI
       have ai:=HD.out.kl
       have ah:=HD.out.kh
       obtain ⟨f0,ax,aw,ay⟩:=free4 ai
       obtain ⟨u0,u1,u2,u3⟩:=free4 ah
       obtain ⟨z0,z1,z2,z3⟩:=cells4 (ZR _ wd) ai
       obtain ⟨y0,y1,y2,y3⟩:=cells4 (ZR _ wd) ah
       have az:=ag.out.1
       have ak:=ag.out.1.symm
       have aj:=two_put ai ah ag.out.1 ag.out.2.2.2.1 ag.out.2.2.2.2 HD.out.below HD.out.r1 HD.out.r2
       have HF:=ZH aj.drew
       clear aj ai ah
       go_region
       go_wp2_with fail
       exact bodyPost_ret (v:=.tuple #[.agg #[.bool aM,.slice g7 i7 j7,.bool aN,.slice g8 i8 j8],.agg #[.bool aX,.slice g9 i9 j9,.bool a0,.slice gx ix jx]]) (by simp[results,Tryz.results52,go_sem,z0,z1,z2,z3,y0,y1,y2,y3]) rfl ⟨HF.out.below,_,_,rfl,by rw[bnd_abs,←cz.out,if_neg cu.out,←cx.out]; exact HF.out.r1,by rw[bnd_abs,←cz.out,if_neg cu.out,←cx.out]; exact HF.out.r2⟩
     ·have e5:(o==5)=false:=by simpa using h5
      have bv:combTo o (boxes D) (argG x) (argG x).length=bnd (boxes D) x:=by
       have h3:=HN.out.2.2.2.2.2
       have h0:=cr.out.1
       cases x with
       | form f=>exact absurd h3 h0
       | scale q a=>exact absurd h3 h2
       | abs a=>exact absurd h3 h5
       | add l=>rw[h3]; exact comb_add _ _
       | min l=>rw[h3]; exact comb_min _ _
       | max l=>rw[h3]; exact comb_max _ _
      have cQ:2+bszs (argG x)≤bsz x:=asz_le cr.out.2
      rw[bv] at ao
      have b7:=ZH (ZN (ao.out.1.more cQ) (ao.out.2.more cQ))
      clear h2 h5 bv cQ bt bQ ao
      go_upto_region 27 with fail
      clear x0 x1 x2 x3 x4
      have ai:=ar.out.1
      have ah:=ar.out.2
      obtain ⟨f0,ax,aw,ay⟩:=free4 ai
      obtain ⟨u0,u1,u2,u3⟩:=free4 ah
      obtain ⟨z0,z1,z2,z3⟩:=cells4 (ZR _ wr) ai
      obtain ⟨y0,y1,y2,y3⟩:=cells4 (ZR _ wr) ah
      have az:=ag.out.1
      have ak:=ag.out.1.symm
      have aj:=two_put ai ah ag.out.1 ag.out.2.2.2.1 ag.out.2.2.2.2 bJ.out b7.out.1 b7.out.2
      have HF:=ZH aj.drew
      clear aj ai ah
      go_region
      go_wp2_with fail
      exact bodyPost_ret (v:=.tuple #[.agg #[.bool p1,.slice a1 c1 l1,.bool p2,.slice a2 c2 l2],.agg #[.bool t1,.slice b1 d1 m1,.bool t2,.slice b2 d2 m2]]) (by simp[results,Tryz.results52,go_sem,z0,z1,z2,z3,y0,y1,y2,y3]) rfl ⟨HF.out.below,_,_,rfl,HF.out.r1,HF.out.r2⟩
theorem pbounds_any {n:Nat} (hn:n≤900) {D:List Dm} (hD:dmFine D) (hO:∀j,j<D.length→(D.getD j Dm.none).lower≤(D.getD j Dm.none).upper) (hB:∀y:GEx,(bnd (boxes D) y).1≤(bnd (boxes D) y).2):∀(m:Nat) (x:GEx),dep x≤m→BndFit n (boxes D) x→UptoG D.length x→∀(w:World) (v:Value) (ad:Option Addr) (cd:Nat),Glob w→DimsIn w ad cd D→ExIn w (raw x) v→Calls Tryz.prog 52 #[v,.slice ad D.length cd] w (PbPost w D x)
 | 0,x,hm,_,_=>by cases x<;>rw[dep] at hm<;>omega
 | m+1,x,hm,hf,hu=>fun w v ad cd hg hd hx=>pbounds_step hn hD hO hB x (fun j hj=>pbounds_any hn hD hO hB m _ (by have:=arg_dep hj; omega) (hf.arg hj) (arg_upto hu hj)) hf hu hg hd hx
end Go.Proofs.YtdgimcmappmjdaaGreatDoor

