/- dimension.pick, Bounds. -/
import Derived.Test.YtdgimcmappmjdaaGreatDoorMSpreadM
import Derived.Test.YtdgimcmappmjdaaGreatDoorKN
import Derived.Test.YtdgimcmappmjdaaGreatDoorK9
import Derived.RegionTactic
import Derived.ChangeAlike
set_option linter.unusedSimpArgs false
set_option linter.unusedVariables false
set_option maxRecDepth 100000
namespace Go.Proofs.YtdgimcmappmjdaaGreatDoor
open List renaming setIfInBounds_toArray → zLa, set_cons_zero → zLb, set_cons_succ → zLc
open FlowR renaming putSel → zFp
open Act renaming put → zAp
open Nat renaming zero_add → zNz
open Flow.Steps renaming cons → zSc, nil → zSn
open FlowR.Step renaming of → zSo
open Go.RowKit Go.Num Go.Flow
open Go.Gx (LF GEx mn mx ab bnd bnds dep Over)
set_option maxHeartbeats 8000000
set_option linter.unusedVariables false

def pickF (o:Int):Nat:=if o=3 then 75 else if o=4 then 76 else 79
theorem enters_pick (o:Int) (args:Array Value) (w:World):(callFunc (pickF o) args).run Tryz.prog w=.ok (.enter (pickF o) args) w:=by
 unfold pickF
 split
 ·exact enters_of Tryz.func75 (by kernel_rfl) rfl args w
 ·split
  ·exact enters_of Tryz.func76 (by kernel_rfl) rfl args w
  ·exact enters_of Tryz.func79 (by kernel_rfl) rfl args w
theorem pick_any {w:World} {o:Int} {va vb:Value} {r s:Rat} {k m:Nat} (ha:RtIn w va r k) (hb:RtIn w vb s m) (hk:2≤k) (hm:2≤m) (hkm:k+m+1≤400000):Calls Tryz.prog (pickF o) #[va,vb] w fun e w'=>∃v,e=.returned v∧RtIn w' v (fop o r s) (k+m+1)∧Below w.heap.size w w':=by
 unfold pickF fop
 by_cases h3:o=3
 ·rw[if_pos h3,if_pos h3]
  exact (ratMin_any (ha.more (show k≤k+m+1 by omega)) (hb.more (show m≤k+m+1 by omega)) (by omega) (by omega))
 ·rw[if_neg h3,if_neg h3]
  by_cases h4:o=4
  ·rw[if_pos h4,if_pos h4]
   exact (ratMax_any (ha.more (show k≤k+m+1 by omega)) (hb.more (show m≤k+m+1 by omega)) (by omega) (by omega))
  ·rw[if_neg h4,if_neg h4]
   exact ratAdd_any ha hb hk hm (by omega)
theorem mpick_any {w:World} (o:Int):Calls Tryz.prog 72 #[.int .i64 o] w fun e w'=>e=.returned (.func (.func (pickF o)) #[] #[])∧Below w.heap.size w w':=by
 by_cases h3:o=3
 ·subst h3
  go_enter Tryz.func72,Tryz.ntmps72
  go_wp2_with fail
  go_ret
  exact ⟨rfl,ZR _ _⟩
 ·have e3:(o==3)=false:=by simpa using h3
  by_cases h4:o=4
  ·subst h4
   go_enter Tryz.func72,Tryz.ntmps72
   go_wp2_with fail
   go_ret
   exact ⟨rfl,ZR _ _⟩
  ·have e4:(o==4)=false:=by simpa using h4
   have HP:=ZH (show pickF o = 79 by unfold pickF; rw[if_neg h3,if_neg h4])
   clear h3 h4
   go_enter Tryz.func72,Tryz.ntmps72
   go_wp2_with fail
   go_ret
   exact ⟨by rw[HP.out]; rfl,ZR _ _⟩
mutual
def NoAbs : GEx→Prop
 | .form _=>True
 | .scale _ a=>NoAbs a
 | .add l=>NoAbss l
 | .min l=>NoAbss l
 | .max l=>NoAbss l
 | .abs _=>False
def NoAbss : List GEx→Prop
 | []=>True
 | a::l=>NoAbs a∧NoAbss l
end
theorem noabs_at : ∀{l:List GEx} {j:Nat},NoAbss l→j<l.length→NoAbs (l.getD j (.add []))
 | [],j,_,h=>by simp at h
 | a::l,0,h,_=>by rw[NoAbss] at h; exact h.1
 | a::l,j+1,h,hj=>by rw[NoAbss] at h; exact noabs_at (l:=l) h.2 (by simpa using hj)
theorem arg_noabs {x:GEx} {j:Nat} (h:NoAbs x) (hj:j<(argG x).length):NoAbs ((argG x).getD j (.add [])):=by
 cases x with
 | form f=>simp[argG] at hj
 | scale k a=>
   obtain rfl:j=0:=by simpa[argG] using hj
   rw[NoAbs] at h; exact h
 | add l=>rw[NoAbs] at h; exact noabs_at h hj
 | min l=>rw[NoAbs] at h; exact noabs_at h hj
 | max l=>rw[NoAbs] at h; exact noabs_at h hj
 | abs a=>rw[NoAbs] at h; exact h.elim
def BndG (w:World) (D:List Dm) (x:GEx) (e:Ending) (w':World):Prop:=Below w.heap.size w w'∧((UptoG D.length x∧∃lo hi,e=.returned (.tuple #[lo,hi,.int .i64 0])∧RtIn w' lo (bnd (boxes D) x).1 (bsz x)∧RtIn w' hi (bnd (boxes D) x).2 (bsz x))∨(¬UptoG D.length x∧e=.returned (.tuple #[.agg #[.bool false,.slice none 0 0,.bool false,.slice none 0 0],.agg #[.bool false,.slice none 0 0,.bool false,.slice none 0 0],.int .i64 13])))
def BndPost (w:World) (B:List (Rat×Rat)) (x:GEx) (e:Ending) (w':World):Prop:=∃lo hi,e=.returned (.tuple #[lo,hi,.int .i64 0])∧RtIn w' lo (bnd B x).1 (bsz x)∧RtIn w' hi (bnd B x).2 (bsz x)∧Below w.heap.size w w'
structure BndFine (n m:Nat) (x:GEx):Prop where
 over:Over n x
 lite:Lite x
 upto:UptoG m x
 noabs:NoAbs x
 size:bsz x≤100000
structure BndFit (n:Nat) (B:List (Rat×Rat)) (x:GEx):Prop where
 over:Over n x
 lite:Lite x
 noabs:NoAbs x∨∀y:GEx,(bnd B y).1≤(bnd B y).2
 size:bsz x≤100000
theorem BndFit.arg {n:Nat} {B:List (Rat×Rat)} {x:GEx} (h:BndFit n B x) {j:Nat} (hj:j<(argG x).length):BndFit n B ((argG x).getD j (.add [])):=by
 refine ⟨arg_over h.over hj,arg_lite h.lite hj,h.noabs.imp (fun k=>arg_noabs k hj) id,?_⟩
 have h1:=asz_le (x:=x) (by cases x<;>simp[opG,argG] at hj⊢)
 have h2:=bszs_take hj
 have h3:=bszs_le (l:=argG x) (k:=j+1)
 have h4:=h.size
 unfold asz at h1
 omega
theorem bscale_text {n:Nat} {B:List (Rat×Rat)} {q:Rat} {a:GEx} (hfi:BndFit n B (.scale q a)):(numText q).length≤60:=by
 obtain ⟨h1,h2⟩:=hfi.lite
 have h3:=hfi.over
 rw[Go.Gx.Den] at h1
 rw[Go.Gx.wt] at h2
 rw[Over] at h3
 obtain ⟨d,r,e,h4,-⟩:=h1
 have h5:=Go.Gx.one_wt h3
 have h6:=Go.Gx.big_ab q
 have h7:=Go.Gx.big_one q
 refine (lite_num (r:=q) ?_ ?_).1
 ·have:=Go.Gx.m2_more h4 (20-d)
  rwa[show 20-d+d=20 by omega] at this
 ·have h8:Go.Gx.big q*1≤Go.Gx.big q*Go.Gx.wt a:=Rat.mul_le_mul_of_nonneg_left h5 (by grind)
  rw[Rat.mul_one] at h8
  exact Rat.le_trans h6 (Rat.le_trans h8 h2)
theorem sign_zero (r:Rat):(cmpI r.num 0≤0↔r≤0)∧(0≤cmpI r.num 0↔0≤r):=by
 have h1:(cmpI r.num 0≤0↔r.num≤0)∧(0≤cmpI r.num 0↔0≤r.num):=by
  unfold cmpI
  split
  ·exact ⟨⟨fun _=>by omega,fun _=>by omega⟩,⟨fun _=>by omega,fun _=>by omega⟩⟩
  ·split<;>exact ⟨⟨fun _=>by omega,fun _=>by omega⟩,⟨fun _=>by omega,fun _=>by omega⟩⟩
 rw[h1.1,h1.2]
 refine ⟨?_,Rat.num_nonneg⟩
 constructor
 ·intro h
  by_cases h0:r.num=0
  ·rw[Rat.num_eq_zero.1 h0]; exact Rat.le_refl
  ·have h3:¬0≤r:=fun h3=>by have:=Rat.num_nonneg.2 h3; omega
   exact Rat.le_of_lt (Rat.not_le.1 h3)
 ·intro h
  rcases Int.lt_or_le 0 r.num with h3 | h3
  ·have h5:r=0:=Rat.le_antisymm h (Rat.num_nonneg.1 (by omega))
   rw[h5] at h3
   exact absurd h3 (by decide)
  ·exact h3
theorem sign_cases (r:Rat):cmpI r.num 0 = -1∨cmpI r.num 0=0∨cmpI r.num 0=1:=by
 unfold cmpI
 split
 ·exact .inl rfl
 ·split
  ·exact .inr (.inr rfl)
  ·exact .inr (.inl rfl)
theorem signs_across {a b:Rat} (h:a≤b):(cmpI a.num 0*cmpI b.num 0≤0)↔(a≤0∧0≤b):=by
 have h1:=sign_zero a
 have h2:=sign_zero b
 rcases sign_cases a with ea | ea | ea<;>rcases sign_cases b with eb | eb | eb<;>rw[ea] at h1⊢<;>rw[eb] at h2⊢<;>simp at h1 h2⊢<;>grind
theorem bnd_abs (B:List (Rat×Rat)) (a:GEx):bnd B (.abs a)=if (bnd B a).1≤0∧0≤(bnd B a).2 then (0,mx (ab (bnd B a).1) (ab (bnd B a).2)) else (mn (ab (bnd B a).1) (ab (bnd B a).2),mx (ab (bnd B a).1) (ab (bnd B a).2)):=by rw[bnd]
theorem mBounds_step {n:Nat} (hn:n≤900) {D:List Dm} (hD:dmFine D) (x:GEx)
  (ih:∀j,j<(argG x).length→∀(w:World) (v:Value) (ad:Option Addr) (cd:Nat),Glob w→DimsIn w ad cd D→ExIn w (raw ((argG x).getD j (.add []))) v→Calls Tryz.prog 26 #[v,.slice ad D.length cd] w (BndG w D ((argG x).getD j (.add []))))
  (hfi:BndFit n (boxes D) x) {w:World} {v:Value} {ad:Option Addr} {cd:Nat} (hg:Glob w) (hd:DimsIn w ad cd D) (hx:ExIn w (raw x) v):Calls Tryz.prog 26 #[v,.slice ad D.length cd] w (BndG w D x):=by
 obtain ⟨tv,aa,ac,rfl,bc,b0⟩:=hx.out
 rw[raw_args] at b0⊢
 rw[raws_len] at b0⊢
 obtain ⟨ta,tc,rfl,-⟩:=id bc
 obtain ⟨s0,cP⟩:∃s:ByteArray,s=⟨(raw x).c.toArray⟩:=⟨_,rfl⟩
 obtain ⟨s1,bJ⟩:∃s:ByteArray,s=⟨(raw x).f.toArray⟩:=⟨_,rfl⟩
 obtain ⟨tn,cF⟩:∃x',x'=(raw x).t.length:=⟨_,rfl⟩
 obtain ⟨an,cc⟩:∃x',x'=(argG x).length:=⟨_,rfl⟩
 obtain ⟨nd,cK⟩:∃x',x'=D.length:=⟨_,rfl⟩
 obtain ⟨o,ho⟩:∃x',x'=(raw x).op:=⟨_,rfl⟩
 rw[←cP,←bJ,←cF,←cc,←ho,←cK]
 unfold BndG
 rw[←cF] at bc
 rw[←cc] at b0
 have dt:o=opG x:=by rw[ho,raw_op]
 obtain ⟨wa,bx,bl,bh,df,di,dh,c8,dd,k0,k1,k2⟩:=new_three w #[.int .i64 o,.string s0,.slice ta tn tc,.string s1,.slice aa an ac] #[.bool false,.slice none 0 0,.bool false,.slice none 0 0] #[.bool false,.slice none 0 0,.bool false,.slice none 0 0] 63 43 43
 have HG:=ZH hg
 have HD:=ZH (ZN hd hD)
 have bo:=ZH hfi
 have HTZ:=ZH bc
 have HAX:=ZH b0
 have HIH:=ZH ih
 have bY:=ZH dd
 have HK:=ZH (ZN k0 (ZN k1 k2))
 have ag:=ZH (show bl≠bh∧bx≠bl∧bx≠bh∧w.heap.size≤bl∧w.heap.size≤bh by omega)
 have HN:=ZH (ZN cc (ZN cK (ZN cP (ZN bJ (ZN cF dt)))))
 have HW:=ZH (ZN df (ZN di (ZN dh c8)))
 have hcap:an≤ac∧ac≤9223372036854775807:=by
  obtain ⟨_,_,e,h1,h2,-⟩:=b0
  simp only[Value.slice.injEq] at e
  obtain ⟨-,-,rfl⟩:=e
  rw[raws_len,←cc] at h1
  exact ⟨h1,h2⟩
 obtain ⟨x0,x1,x2,x3,x4⟩:=cells5 (ZR _ wa) k0
 obtain ⟨z0,z1,z2,z3⟩:=cells4 (ZR _ wa) k1
 obtain ⟨y0,y1,y2,y3⟩:=cells4 (ZR _ wa) k2
 clear df di dh c8 dd hg hd hD hfi bc b0 ih cP bJ cF hx ho cc cK dt
 by_cases hop:o=0
 ·-- a form
  subst hop
  have bv:=ZH (show ∃f,x=.form f from by
   have:=HN.out.2.2.2.2.2
   cases x with
   | form f=>exact ⟨f,rfl⟩
   | _=>exact absurd this (by simp[opG]))
  obtain ⟨f,rfl⟩:=bv.out
  clear bv
  have cZ:f.t.length=n:=by have:=bo.out.over; rwa[Over] at this
  have co:=lite_form bo.out.lite
  have dr:=fine_texts co cZ
  have ci:=texts_len f
  have cL:tn=(formTexts f).length:=by rw[HN.out.2.2.2.2.1,raw]; simp[Ex.t,zTerms]
  have bq:FormAt wa (.agg #[.string s0,.slice ta tn tc]) (numText f.c) (formTexts f):=by
   refine ⟨.slice ta tn tc,?_,TermsZ.nat (l:=formTexts f) ?_⟩
   ·rw[HN.out.2.2.1,raw]; rfl
   ·have h:=HTZ.out.below bY.out
    rw[raw] at h
    exact h
  have cH:∀j,j<(formTexts f).length→(formTexts f).getD j (0,[])∈formTexts f:=fun j hj=>by
   rw[List.getD_eq_getElem?_getD,List.getElem?_eq_getElem hj]
   exact List.getElem_mem hj
  have cy:=mspread_any (HG.out.below bY.out) (S:=60) bq (by omega) (HD.out.1.below bY.out) HD.out.2 (liteF_texts co).1 (read_num_ok (by have:=(liteF_texts co).1; omega) (by have:=(liteF_texts co).1; omega)) (by omega) (fun j hj=>(dr _ (cH j hj)).2) (by
   have h1:=bo.out.size
   rw[Go.Proofs.YtdgimcmappmjdaaGreatDoor.bsz] at h1
   omega)
  unfold SpreadPost at cy
  rw[←HN.out.2.1] at cy
  have HSP:=ZH cy
  have db:=ZH (ZN cZ (ZN cH ci))
  have bC:=HK.out.2.1
  have bU:=HK.out.2.2
  clear cZ co dr ci cL bq cH cy k0 k1 k2
  go_enter Tryz.func26,Tryz.ntmps26
  go_upto_region 1 with fail
  rw[←HW.out.1,←HW.out.2.2.2,←HW.out.2.2.1,←HW.out.2.1]
  clear HW
  go_wp2_with fail
  refine HSP.out.mono ?_
  rintro e w1 ⟨hp,cQ,cn⟩
  have bX:=(cn.block bl (ZL bC)).trans bC
  have b5:=(cn.block bh (ZL bU)).trans bU
  have aL:=bY.out.trans (cn.mono bY.out.size)
  obtain ⟨z0,z1,z2,z3⟩:=cells4 (ZR _ w1) bX
  obtain ⟨y0,y1,y2,y3⟩:=cells4 (ZR _ w1) b5
  obtain ⟨f0,aC,aB,aE⟩:=free4 bX
  obtain ⟨u0,u1,u2,u3⟩:=free4 b5
  have aA:=ag.out.1
  have ak:=ag.out.1.symm
  by_cases aT:Upto D.length f
  ·obtain ⟨lo,hi,rfl,br,bt⟩:=hp (fun j hj=>by rw[HN.out.2.1]; exact (upto_terms.1 aT) _ (db.out.2.1 j hj))
   obtain ⟨p1,g1,f1,n1,p2,g2,f2,n2,rfl⟩:=rt_shape br
   obtain ⟨p3,g3,f3,n3,p4,g4,f4,n4,rfl⟩:=rt_shape bt
   have dc:(spreadTo D (numText f.c) (formTexts f) (formTexts f).length)=bnd (boxes D) (.form f):=by
    unfold spreadTo
    rw[List.take_length,read_num]
    refine spread_texts fun i hi=>aT i ?_
    unfold boxes at hi
    rwa[List.length_map] at hi
   rw[dc] at br bt
   have bO:60+2+(formTexts f).length*(60+6)≤bsz (.form f):=by
    rw[bsz]
    have:=Nat.mul_le_mul_right 66 db.out.2.2
    omega
   have HF:=ZH (two_put bX b5 ag.out.1 ag.out.2.2.2.1 ag.out.2.2.2.2 aL (br.more bO) (bt.more bO))
   have HU:=ZH (show UptoG D.length (.form f) by rw[UptoG]; exact aT)
   clear bX b5 cn aL br bt hp cQ dc bO aT
   go_wp2_with fail
   exact bodyPost_ret (v:=.tuple #[.agg #[.bool p1,.slice g1 f1 n1,.bool p2,.slice g2 f2 n2],.agg #[.bool p3,.slice g3 f3 n3,.bool p4,.slice g4 f4 n4],.int .i64 0]) (by simp[results,Tryz.results26,go_sem,z0,z1,z2,z3,y0,y1,y2,y3]) rfl ⟨HF.out.below,.inl ⟨HU.out,_,_,rfl,HF.out.r1,HF.out.r2⟩⟩
  ·obtain ⟨js,dm,dq⟩:=upto_short aT
   obtain rfl:=cQ ⟨js,dm,by rw[HN.out.2.1]; exact dq⟩
   have HF:=ZH (two_put bX b5 ag.out.1 ag.out.2.2.2.1 ag.out.2.2.2.2 aL (zero_rt w1 2) (zero_rt w1 2))
   have HU:=ZH (show ¬UptoG D.length (.form f) by rw[UptoG]; exact aT)
   clear bX b5 cn aL hp cQ aT dm dq
   go_wp2_with fail
   exact bodyPost_ret (v:=.tuple #[.agg #[.bool false,.slice none 0 0,.bool false,.slice none 0 0],.agg #[.bool false,.slice none 0 0,.bool false,.slice none 0 0],.int .i64 13]) (by simp[results,Tryz.results26,go_sem,z0,z1,z2,z3,y0,y1,y2,y3]) rfl ⟨HF.out.below,.inr ⟨HU.out,rfl⟩⟩
 ·have e0:(o==0)=false:=by simpa using hop
  have cq:=ZH hop
  clear hop k0 k1 k2 z0 z1 z2 z3 y0 y1 y2 y3
  have hn1:an≤100000:=by
   have h1:=bo.out.size
   have h2:=asz_le (x:=x) (by rw[←HN.out.2.2.2.2.2]; exact cq.out)
   have h3:∀l:List GEx,l.length≤bszs l:=fun l=>by
    induction l with
    | nil=>simp
    | cons a l ih=>rw[bszs,List.length_cons]; omega
   have h4:=h3 (argG x)
   unfold asz at h2
   have:=HN.out.1
   omega
  go_enter Tryz.func26,Tryz.ntmps26
  go_upto_region 1 with fail
  rw[←HW.out.1,←HW.out.2.2.2,←HW.out.2.2.1,←HW.out.2.1]
  clear HW
  go_wp2_with fail
  clear x0 x1 x2 x3 x4
  go_loopg [30] an (fun gk i wr=>∃k:Nat,k+gk=an∧i=.int .i64 k∧Hid (∃s1 a1 c1 l1 s2 a2 c2 l2 t1 b1 d1 m1 t2 b2 d2 m2,wr.heap[bl]?=some (.cells #[.bool s1,.slice a1 c1 l1,.bool s2,.slice a2 c2 l2] 43 (0,0))∧wr.heap[bh]?=some (.cells #[.bool t1,.slice b1 d1 m1,.bool t2,.slice b2 d2 m2] 43 (0,0))∧RtIn wr (.agg #[.bool s1,.slice a1 c1 l1,.bool s2,.slice a2 c2 l2]) (combTo o (boxes D) (argG x) k).1 (2+bszs ((argG x).take k))∧RtIn wr (.agg #[.bool t1,.slice b1 d1 m1,.bool t2,.slice b2 d2 m2]) (combTo o (boxes D) (argG x) k).2 (2+bszs ((argG x).take k)))∧Hid (wr.heap[bx]?=some (.cells #[.int .i64 o,.string s0,.slice ta tn tc,.string s1,.slice aa an ac] 63 (0,0))∧∀j,j<k→UptoG D.length ((argG x).getD j (.add [])))∧Hid (Below w.heap.size w wr))
  case atStart=>exact ⟨0,by omega,rfl,ZH ⟨_,_,_,_,_,_,_,_,_,_,_,_,_,_,_,_,HK.out.2.1,HK.out.2.2,zero_rt _ _,zero_rt _ _⟩,ZH ⟨HK.out.1,fun j hj=>by omega⟩,bY⟩
  case round=>
   obtain ⟨k,hk,rfl,bD,b4,aL⟩:=hrel
   obtain ⟨p1,a1,c1,l1,p2,a2,c2,l2,t1,b1,d1,m1,t2,b2,d2,m2,bC,bU,cf,ca⟩:=bD.out
   by_cases hlt:k<an
   ·have e1:((k:Int)<(an:Int))=True:=eq_true (by omega)
    obtain ⟨_,_,he,-,-,dj⟩:=HAX.out
    simp only[Value.slice.injEq] at he
    obtain ⟨rfl,-,rfl⟩:=he
    obtain ⟨g,og,rfl,-,dp⟩:=dj (by rw[raws_len,←HN.out.1]; omega)
    have bT:k<(argG x).length:=by rw[←HN.out.1]; exact hlt
    obtain ⟨utv,ua,uc,c0,b7,cN,c3,c4,cg,cA⟩:=dp.at (j:=k) (by rw[raws_len]; exact bT)
    rw[raws_at bT] at c0 b7 c3 c4 cg cA
    have bI:=HIH.out k bT
    have ch:=fun (h0:k=0)=>combTo_one o (boxes D) (l:=argG x) (by omega)
    have ct:=fun (h0:0<k)=>combTo_succ o (boxes D) bT h0
    have bG:=bszs_take bT
    have aT:=fun (h:UptoG D.length x)=>arg_upto h bT
    have dg:=b4.out.2
    obtain ⟨y,hy⟩:∃y,y=(argG x).getD k (.add []):=⟨_,rfl⟩
    rw[←hy] at c0 b7 c3 c4 cg cA bI bG aT
    have b3:combTo o (boxes D) (argG x) (k+1)=if k=0 then bnd (boxes D) y else (fop o (combTo o (boxes D) (argG x) k).1 (bnd (boxes D) y).1,fop o (combTo o (boxes D) (argG x) k).2 (bnd (boxes D) y).2):=by
     by_cases h0:k=0
     ·rw[if_pos h0,hy,h0]
      exact ch h0
     ·rw[if_neg h0,hy]
      exact ct (by omega)
    clear ch ct
    obtain ⟨uta,utc,rfl,-⟩:=id cg
    obtain ⟨uo,cT⟩:∃q,q=(raw y).op:=⟨_,rfl⟩
    obtain ⟨us0,bH⟩:∃s:ByteArray,s=⟨(raw y).c.toArray⟩:=⟨_,rfl⟩
    obtain ⟨us1,bz⟩:∃s:ByteArray,s=⟨(raw y).f.toArray⟩:=⟨_,rfl⟩
    obtain ⟨utn,bP⟩:∃q,q=(raw y).t.length:=⟨_,rfl⟩
    obtain ⟨uan,bL⟩:∃q,q=(raw y).a.length:=⟨_,rfl⟩
    have cU:=ExIn.of cg cA
    rw[←cT,←bH,←bz,←bP,←bL] at cU
    rw[←cT] at c0
    rw[←bH] at b7
    rw[←bP] at cN
    rw[←bz] at c3
    rw[←bL] at c4
    have x0:=ZJ aL.out c0
    have x1:=ZJ aL.out b7
    have x2:=ZJ aL.out cN
    have x3:=ZJ aL.out c3
    have x4:=ZJ aL.out c4
    have HY:=ZH cU
    have dk:=ZH (show ∀(w:World) (v:Value) (ad:Option Addr) (cd:Nat),Glob w→DimsIn w ad cd D→ExIn w (raw y) v→Calls Tryz.prog 26 #[v,.slice ad nd cd] w (BndG w D y) from by rw[HN.out.2.1]; exact bI)
    have bs:=ZH (ZN hlt (ZN b3 bG))
    have cz:=ZH (ZN aT (show UptoG D.length y→∀j,j<k+1→UptoG D.length ((argG x).getD j (.add [])) from fun h j hj=>by
     rcases Nat.lt_or_eq_of_le (Nat.le_of_lt_succ hj) with h9 | h9
     ·exact dg j h9
     ·rw[h9,←hy]; exact h))
    have c6:=ZH b4.out.1
    have cp:=ZH (ZN bC bU)
    have cm:=ZH (ZN cf ca)
    have hk0:(0:Int)≤(k:Int):=by omega
    have hk1:(k:Int)<(an:Int):=by omega
    obtain ⟨va,dv⟩:∃q,q=combTo o (boxes D) (argG x) k:=⟨_,rfl⟩
    rw[←dv] at cm bs
    obtain ⟨K0,dn⟩:∃q,q=2+bszs ((argG x).take k):=⟨_,rfl⟩
    rw[←dn] at cm
    have a9:=ZH (show K0+bsz y+1≤100000∧2+bszs ((argG x).take (k+1))=K0+bsz y+1∧2≤K0∧2≤bsz y by
     have h1:=bo.out.size
     have h2:=asz_le (x:=x) (by rw[←HN.out.2.2.2.2.2]; exact cq.out)
     have h3:=bszs_le (l:=argG x) (k:=k+1)
     have h4:=bsz_two y
     unfold asz at h2
     omega)
    clear dj dp c0 b7 cN c3 c4 cg cA bI bG hy b3 cT bH bz bP bL cU hlt b4 bC bU cf ca bD dv dn bT aT dg
    go_upto_region 6 with fail
    obtain ⟨w4,by',du,de,bK,ky⟩:=new_box wr #[.int .i64 uo,.string us0,.slice uta utn utc,.string us1,.slice ua uan uc] 63
    rw[←du,←de]
    have bw:=ZH (aL.out.trans (bK.mono aL.out.size))
    have bS:=ZH ((bK.block bx (ZL c6.out)).trans c6.out)
    have aq:=ZH (ZN ((bK.block bl (ZL cp.out.1)).trans cp.out.1) ((bK.block bh (ZL cp.out.2)).trans cp.out.2))
    have bV:=ZH (ZN (cm.out.1.below bK) (cm.out.2.below bK))
    obtain ⟨y0,y1,y2,y3,y4⟩:=cells5 (ZR _ w4) ky
    have a5:=dk.out _ _ _ _ (HG.out.below bw.out) (HD.out.1.below bw.out) (HY.out.below bw.out)
    unfold BndG at a5
    have cO:=ZH a5
    clear du de bK ky x0 x1 x2 x3 x4 hk0 hk1 c6 cp cm aL a5 dk
    go_wp2_with fail
    refine cO.out.mono ?_
    rintro e w5 ⟨bg,hc⟩
    rcases hc with ⟨hu,lo,hi,rfl,br,bt⟩ | ⟨hu,rfl⟩
    ·obtain ⟨q1,g1,i1,j1,q2,g2,i2,j2,rfl⟩:=rt_shape br
     obtain ⟨q3,g3,i3,j3,q4,g4,i4,j4,rfl⟩:=rt_shape bt
     have bW:=ZH (ZN br bt)
     have a4:=ZH bg
     have cv:=ZH (cz.out.2 hu)
     clear br bt bg y0 y1 y2 y3 y4 cO cz hu
     go_upto_region 7 with fail
     obtain ⟨w6,bA,bB,bu,cr,b9,aP,kA,kB⟩:=new_two w5 #[.bool q1,.slice g1 i1 j1,.bool q2,.slice g2 i2 j2] #[.bool q3,.slice g3 i3 j3,.bool q4,.slice g4 i4 j4] 43 43
     rw[←bu,←b9,←cr]
     have bR:=a4.out.trans (aP.mono a4.out.size)
     have aJ:=ZH (bw.out.trans (bR.mono bw.out.size))
     have aM:=ZH ((bR.block bx (ZL bS.out)).trans bS.out)
     have af:=ZH (ZN ((bR.block bl (ZL aq.out.1)).trans aq.out.1) ((bR.block bh (ZL aq.out.2)).trans aq.out.2))
     have am:=ZH (ZN (bV.out.1.below bR) (bV.out.2.below bR))
     have bn:=ZH (ZN kA kB)
     have aO:=ZH (ZN (bW.out.1.below aP) (bW.out.2.below aP))
     have cx:=ZH (show bl<bA∧bl<bB∧bh<bA∧bh<bB by
      have h1:=ZL aq.out.1
      have h2:=ZL aq.out.2
      have h3:=a4.out.size
      omega)
     have aH:=ZH (ZR w6.heap.size w6)
     clear bu cr b9 aP kA kB bR bw bS aq bV bW a4
     go_upto_region 9 with fail
     by_cases h0:k=0
     ·subst h0
      go_upto_region 10 with fail
      have ai:=af.out.1
      have ah:=af.out.2
      obtain ⟨a8,aY,aR,aU⟩:=cells4 (ZR _ w6) ai
      obtain ⟨aX,a0,aS,aV⟩:=cells4 (ZR _ w6) ah
      obtain ⟨f0,aC,aB,aE⟩:=free4 ai
      obtain ⟨u0,u1,u2,u3⟩:=free4 ah
      have aA:=ag.out.1
      have ak:=ag.out.1.symm
      have aj:=two_put ai ah ag.out.1 ag.out.2.2.2.1 ag.out.2.2.2.2 aJ.out aO.out.1 aO.out.2
      have cl:=aM.out
      obtain ⟨qa0,qa1,qa2,qa3⟩:=cells4 (ZR _ w6) bn.out.1
      obtain ⟨qb0,qb1,qb2,qb3⟩:=cells4 (ZR _ w6) bn.out.2
      have n1:¬bA=bl:=by have:=cx.out; omega
      have n2:¬bB=bl:=by have:=cx.out; omega
      have n3:¬bA=bh:=by have:=cx.out; omega
      have n4:¬bB=bh:=by have:=cx.out; omega
      have aI:=aj.but bx _ ag.out.2.1 ag.out.2.2.1 cl
      have b6:=aj.drew
      have aI:=((ZR _ _).drew.block bx (ZL aI)).trans aI
      have HF:=ZH (ZN b6 aI)
      clear aj b6 aI ai ah cl
      go_region
      go_wp2_with fail
      go_roundg (an-(0+1))
      case measure=>have:=bs.out.1; omega
      case rel=>exact ⟨0+1,by have:=bs.out.1; omega,by congr 1,ZH ⟨_,_,_,_,_,_,_,_,_,_,_,_,_,_,_,_,HF.out.1.kl,HF.out.1.kh,by rw[bs.out.2.1,if_pos trivial,a9.out.2.1]; exact HF.out.1.r1.more (by omega),by rw[bs.out.2.1,if_pos trivial,a9.out.2.1]; exact HF.out.1.r2.more (by omega)⟩,ZH ⟨HF.out.2,cv.out⟩,ZH HF.out.1.below⟩
     ·have e2:((k:Int)==0)=false:=by simp; omega
      have b3:=bs.out.2.1
      rw[if_neg h0] at b3
      have da:=ZH b3
      clear h0 b3
      go_upto_region 11 with fail
      refine FlowR.wp_region_sel (fun a b=>Below a.heap.size a b) (fun a=>ZR _ a) (fun _ _ _ h k=>h.trans (k.mono h.size)) [0,1,2,3,4,5,6,7,8,9,10,11] [false,false,false,false,false,false,false,false,false,false,false,false,false,false] [true,true,true,true,true,true,true,true,true,true,true,true,false,false] (fun i9 v w'=>match i9 with
       | 0=>v=.pointer (some ⟨bx,0,none⟩)
       | 1=>v=.int .i64 o
       | 2=>v=.func (.func (pickF o)) #[] #[]
       | 3=>v=.agg #[.bool p1,.slice a1 c1 l1,.bool p2,.slice a2 c2 l2]
       | 4=>v=.agg #[.bool q1,.slice g1 i1 j1,.bool q2,.slice g2 i2 j2]
       | 5=>RtIn w' v (fop o va.1 (bnd (boxes D) y).1) (K0+bsz y+1)
       | 6=>v=.pointer (some ⟨bx,0,none⟩)
       | 7=>v=.int .i64 o
       | 8=>v=.func (.func (pickF o)) #[] #[]
       | 9=>v=.agg #[.bool t1,.slice b1 d1 m1,.bool t2,.slice b2 d2 m2]
       | 10=>v=.agg #[.bool q3,.slice g3 i3 j3,.bool q4,.slice g4 i4 j4]
       | _=>RtIn w' v (fop o va.2 (bnd (boxes D) y).2) (K0+bsz y+1)) rfl rfl (by kernel_rfl) (by kernel_rfl) (by kernel_rfl) (by kernel_rfl) ?st ?_ ?_
      case st=>
       intro i9 v u1 u2 h hb
       match i9 with
       | 0 | 1 | 2 | 3 | 4 | 6 | 7 | 8 | 9 | 10=>exact h
       | 5 | 11 | _+12=>exact RtIn.below h hb
      refine zSc (zSo rfl ?s0) (zSc (zSo rfl ?s1) (zSc (zSo rfl ?s2) (zSc (zSo rfl ?s3) (zSc (zSo rfl ?s4) (zSc (zSo rfl ?s5) (zSc (zSo rfl ?s6) (zSc (zSo rfl ?s7) (zSc (zSo rfl ?s8) (zSc (zSo rfl ?s9) (zSc (zSo rfl ?s10) (zSc (zSo rfl ?s11) zSn)))))))))))
      case s0 | s6=>
       intro xs w' hb hT K9 ae
       clear hT
       simp only[zFp,zAp,zLa,zLb,zLc,Nat.reduceAdd,zNz] at ae⊢
       have hw:=Flow.hwD aH.out hb
       go_simp
       exact ae _ _ (ZR _ _) rfl
      case s1=>
       intro xs w' hb hT K9 ae
       have h0:(xs 0)=.pointer (some ⟨bx,0,none⟩):=hT 0 (by kernel_rfl)
       clear hT
       simp only[zFp,zAp,zLa,zLb,zLc,Nat.reduceAdd,zNz] at ae⊢
       have hw:=Flow.hwD aH.out hb
       have kb:=(hw.block bx (ZL aM.out)).trans aM.out
       have y0:=ZI kb 0
       clear kb
       simp at y0
       (try simp only[h0] at ae)
       go_simp
       exact ae _ _ (ZR _ _) rfl
      case s2=>
       intro xs w' hb hT K9 ae
       have h1:(xs 1)=.int .i64 o:=hT 1 (by kernel_rfl)
       clear hT
       simp only[zFp,zAp,zLa,zLb,zLc,Nat.reduceAdd,zNz] at ae⊢
       have hw:=Flow.hwD aH.out hb
       (try simp only[h1] at ae)
       go_simp
       go_at_call 72
       refine (mpick_any o).mono ?_
       rintro e w3 ⟨rfl,al⟩
       exact ae _ _ al rfl
      case s3 | s4 | s9 | s10=>
       intro xs w' hb hT K9 ae
       clear hT
       simp only[zFp,zAp,zLa,zLb,zLc,Nat.reduceAdd,zNz] at ae⊢
       have hw:=Flow.hwD aH.out hb
       obtain ⟨y0,y1,y2,y3⟩:=cells4 hw af.out.1
       obtain ⟨z0,z1,z2,z3⟩:=cells4 hw bn.out.1
       obtain ⟨u0,u1,u2,u3⟩:=cells4 hw af.out.2
       obtain ⟨v0,v1,v2,v3⟩:=cells4 hw bn.out.2
       go_simp
       exact ae _ _ (ZR _ _) rfl
      case s5=>
       intro xs w' hb hT K9 ae
       have h2:(xs 2)=.func (.func (pickF o)) #[] #[]:=hT 2 (by kernel_rfl)
       have h3:(xs 3)=.agg #[.bool p1,.slice a1 c1 l1,.bool p2,.slice a2 c2 l2]:=hT 3 (by kernel_rfl)
       have h4:(xs 4)=.agg #[.bool q1,.slice g1 i1 j1,.bool q2,.slice g2 i2 j2]:=hT 4 (by kernel_rfl)
       clear hT
       simp only[zFp,zAp,zLa,zLb,zLc,Nat.reduceAdd,zNz] at ae⊢
       have hw:=Flow.hwD aH.out hb
       (try simp only[h2] at ae)
       (try simp only[h3] at ae)
       (try simp only[h4] at ae)
       have he:=enters_pick o
       go_simp
       refine (pick_any (o:=o) (am.out.1.below hw) (aO.out.1.below hw) a9.out.2.2.1 a9.out.2.2.2 (by have:=a9.out; omega)).mono ?_
       rintro e w3 ⟨v3,rfl,ar,al⟩
       exact ae _ _ al ar
      case s7=>
       intro xs w' hb hT K9 ae
       have h6:(xs 6)=.pointer (some ⟨bx,0,none⟩):=hT 6 (by kernel_rfl)
       clear hT
       simp only[zFp,zAp,zLa,zLb,zLc,Nat.reduceAdd,zNz] at ae⊢
       have hw:=Flow.hwD aH.out hb
       have kb:=(hw.block bx (ZL aM.out)).trans aM.out
       have y0:=ZI kb 0
       clear kb
       simp at y0
       (try simp only[h6] at ae)
       go_simp
       exact ae _ _ (ZR _ _) rfl
      case s8=>
       intro xs w' hb hT K9 ae
       have h7:(xs 7)=.int .i64 o:=hT 7 (by kernel_rfl)
       clear hT
       simp only[zFp,zAp,zLa,zLb,zLc,Nat.reduceAdd,zNz] at ae⊢
       have hw:=Flow.hwD aH.out hb
       (try simp only[h7] at ae)
       go_simp
       go_at_call 72
       refine (mpick_any o).mono ?_
       rintro e w3 ⟨rfl,al⟩
       exact ae _ _ al rfl
      case s11=>
       intro xs w' hb hT K9 ae
       have h8:(xs 8)=.func (.func (pickF o)) #[] #[]:=hT 8 (by kernel_rfl)
       have h9:(xs 9)=.agg #[.bool t1,.slice b1 d1 m1,.bool t2,.slice b2 d2 m2]:=hT 9 (by kernel_rfl)
       have h10:(xs 10)=.agg #[.bool q3,.slice g3 i3 j3,.bool q4,.slice g4 i4 j4]:=hT 10 (by kernel_rfl)
       clear hT
       simp only[zFp,zAp,zLa,zLb,zLc,Nat.reduceAdd,zNz] at ae⊢
       have hw:=Flow.hwD aH.out hb
       (try simp only[h8] at ae)
       (try simp only[h9] at ae)
       (try simp only[h10] at ae)
       have he:=enters_pick o
       go_simp
       refine (pick_any (o:=o) (am.out.2.below hw) (aO.out.2.below hw) a9.out.2.2.1 a9.out.2.2.2 (by have:=a9.out; omega)).mono ?_
       rintro e w3 ⟨v3,rfl,ar,al⟩
       exact ae _ _ al ar
      intro xs w' hb hT
      have hw:=Flow.hwD aH.out hb
      have h5:RtIn w' (xs 5) (fop o va.1 (bnd (boxes D) y).1) (K0+bsz y+1):=hT 5 (by rfl)
      have cE:RtIn w' (xs 11) (fop o va.2 (bnd (boxes D) y).2) (K0+bsz y+1):=hT 11 (by rfl)
      clear hT
      simp only[zFp,zAp,zLa,zLb,zLc,Nat.reduceAdd,zNz,FlowR.restL,FlowR.orM,Bool.false_or]
      obtain ⟨bd,g7,i7,j7,bj,g8,i8,j8,e5⟩:=rt_shape h5
      obtain ⟨be,g9,i9,j9,bf,gx,ix,jx,aN⟩:=rt_shape cE
      rw[e5] at h5
      rw[aN] at cE
      simp only[e5,aN]
      clear e5 aN
      have ai:=(hw.block bl (ZL af.out.1)).trans af.out.1
      have ah:=(hw.block bh (ZL af.out.2)).trans af.out.2
      obtain ⟨a8,aY,aR,aU⟩:=cells4 (ZR _ w') ai
      obtain ⟨aX,a0,aS,aV⟩:=cells4 (ZR _ w') ah
      obtain ⟨f0,aC,aB,aE⟩:=free4 ai
      obtain ⟨u0,u1,u2,u3⟩:=free4 ah
      have aA:=ag.out.1
      have ak:=ag.out.1.symm
      have aj:=two_put ai ah ag.out.1 ag.out.2.2.2.1 ag.out.2.2.2.2 (aJ.out.trans (hw.mono aJ.out.size)) h5 cE
      have cl:=(hw.block bx (ZL aM.out)).trans aM.out
      have aI:=aj.but bx _ ag.out.2.1 ag.out.2.2.1 cl
      have b6:=aj
      have HF:=ZH (ZN b6 aI)
      clear aj b6 aI ai ah cl h5 cE hb hw
      go_wp2_with fail
      go_roundg (an-(k+1))
      case measure=>have:=bs.out.1; omega
      case rel=>exact ⟨k+1,by have:=bs.out.1; omega,by congr 1,ZH ⟨_,_,_,_,_,_,_,_,_,_,_,_,_,_,_,_,HF.out.1.kl,HF.out.1.kh,by rw[da.out,a9.out.2.1]; exact HF.out.1.r1.more (by omega),by rw[da.out,a9.out.2.1]; exact HF.out.1.r2.more (by omega)⟩,ZH ⟨HF.out.2,cv.out⟩,ZH HF.out.1.below⟩
    ·have cv:=ZH (show ¬UptoG D.length x from fun h=>hu (cz.out.1 h))
     have cM:=(bg.block bl (ZL aq.out.1)).trans aq.out.1
     have c7:=(bg.block bh (ZL aq.out.2)).trans aq.out.2
     have a4:=ZH (bw.out.trans (bg.mono bw.out.size))
     clear hu bg y0 y1 y2 y3 y4 cO cz
     go_upto_region 7 with fail
     obtain ⟨w6,bA,bB,bu,cr,b9,aP,kA,kB⟩:=new_two w5 #[.bool false,.slice none 0 0,.bool false,.slice none 0 0] #[.bool false,.slice none 0 0,.bool false,.slice none 0 0] 43 43
     rw[←bu,←b9,←cr]
     have ai:=(aP.block bl (ZL cM)).trans cM
     have ah:=(aP.block bh (ZL c7)).trans c7
     have HF:=ZH (two_put ai ah ag.out.1 ag.out.2.2.2.1 ag.out.2.2.2.2 (a4.out.trans (aP.mono a4.out.size)) (zero_rt w6 2) (zero_rt w6 2))
     obtain ⟨f0,aC,aB,aE⟩:=free4 ai
     obtain ⟨u0,u1,u2,u3⟩:=free4 ah
     obtain ⟨z0,z1,z2,z3⟩:=cells4 (ZR _ w6) ai
     obtain ⟨y0,y1,y2,y3⟩:=cells4 (ZR _ w6) ah
     have aA:=ag.out.1
     have ak:=ag.out.1.symm
     clear bu cr b9 aP kA kB cM c7 ai ah
     go_wp2_with fail
     exact bodyPost_ret (v:=.tuple #[.agg #[.bool false,.slice none 0 0,.bool false,.slice none 0 0],.agg #[.bool false,.slice none 0 0,.bool false,.slice none 0 0],.int .i64 13]) (by simp[results,Tryz.results26,go_sem,z0,z1,z2,z3,y0,y1,y2,y3]) rfl ⟨HF.out.below,.inr ⟨cv.out,rfl⟩⟩
   ·have e1:((k:Int)<(an:Int))=False:=eq_false (by omega)
    obtain rfl:k=an:=by omega
    have bm:=ZH b4.out.1
    have cC:=ZH (show UptoG D.length x from arg_upto_of (by rw[←HN.out.2.2.2.2.2]; exact cq.out) (fun j hj=>b4.out.2 j (by rw[HN.out.1]; exact hj)))
    have aw:=ZH (ZN bC bU)
    rw[HN.out.1,List.take_length] at cf ca
    have ao:=ZH (ZN cf ca)
    have bF:=ZH aL.out
    have bi:=ZH (ZR wr.heap.size wr)
    clear bD b4 bC bU cf ca aL
    obtain ⟨x0,x1,x2,x3,x4⟩:=cells5 (ZR _ wr) bm.out
    by_cases h2:o=2
    ·subst h2
     have bv:=ZH (show ∃q a,x=.scale q a from by
      have:=HN.out.2.2.2.2.2
      cases x with
      | scale q a=>exact ⟨q,a,rfl⟩
      | _=>exact absurd this (by simp[opG]))
     obtain ⟨q,a,rfl⟩:=bv.out
     clear bv
     have ds:=bscale_text bo.out
     have bJ:s1.data.toList=numText q:=by rw[HN.out.2.2.2.1,raw]; rfl
     have cW:=mread_any s1 (w:=wr) (by
      have h1:s1.size=(numText q).length:=by rw[HN.out.2.2.2.1,raw]; simp[ByteArray.size,Ex.f]
      omega) (HG.out.below bF.out) (by rw[bJ]; exact read_num_ok (by omega) (by omega))
     rw[bJ,read_num] at cW
     have c9:=ZH cW
     have HQ:=ZH ds
     have bp:combTo 2 (boxes D) (argG (.scale q a)) (argG (.scale q a)).length=bnd (boxes D) a:=combTo_one 2 (boxes D) (l:=[a]) (by simp)
     rw[bp,show 2+bszs (argG (.scale q a))=bsz a+3 by simp[argG,bszs]; omega] at ao
     have aK:=ZH (show bsz a≤100000∧bsz (.scale q a)=bsz a+65 by
      have:=bo.out.size
      rw[bsz] at this⊢
      omega)
     clear ds bJ cW bp
     go_wp2_with fail
     refine c9.out.mono ?_
     rintro e w5 ⟨v5,rfl,cJ,bg⟩
     obtain ⟨u1,i1,j1,o1,u2,i2,j2,o2,rfl⟩:=rt_shape cJ
     have bW:=ZH (cJ.more (show (numText q).length+2≤62 by have:=HQ.out; omega))
     have a4:=ZH bg
     clear cJ bg x0 x1 x2 x3 x4 c9
     go_upto_region 16 with fail
     obtain ⟨w6,bk,bu,dl,aP,kk⟩:=new_box w5 #[.bool u1,.slice i1 j1 o1,.bool u2,.slice i2 j2 o2] 43
     rw[←bu,←dl]
     have bZ:=a4.out.trans (aP.mono a4.out.size)
     have cD:=ZH (ZN kk (bW.out.below aP))
     have af:=ZH (ZN ((bZ.block bl (ZL aw.out.1)).trans aw.out.1) ((bZ.block bh (ZL aw.out.2)).trans aw.out.2))
     have am:=ZH (ZN (ao.out.1.below bZ) (ao.out.2.below bZ))
     have aJ:=ZH (bF.out.trans (bZ.mono bF.out.size))
     have aH:=ZH (ZR w6.heap.size w6)
     clear bu dl aP kk bZ bW a4 aw ao bF bi bm
     refine FlowX.wp_region_mix (fun a b=>Below a.heap.size a b) (fun _ _ h=>h) [0,1,2,3,4,5,6,7] [true,true,true,true,true,true,true,true,false,false] (fun j9=>[6,7].contains j9) (fun i9 v w'=>match i9 with
      | 0=>v=.agg #[.bool u1,.slice i1 j1 o1,.bool u2,.slice i2 j2 o2]
      | 1=>v=.agg #[.bool p1,.slice a1 c1 l1,.bool p2,.slice a2 c2 l2]
      | 2=>RtIn w' v (q*(bnd (boxes D) a).1) (62+(bsz a+3))
      | 3=>v=.agg #[.bool u1,.slice i1 j1 o1,.bool u2,.slice i2 j2 o2]
      | 4=>v=.agg #[.bool t1,.slice b1 d1 m1,.bool t2,.slice b2 d2 m2]
      | 5=>RtIn w' v (q*(bnd (boxes D) a).2) (62+(bsz a+3))
      | 6=>True
      | _=>True) (FlowX.TwoBox w6.heap.size #[.bool false,.slice none 0 0,.bool false,.slice none 0 0] 43 6 7) rfl rfl (by kernel_rfl) (by kernel_rfl) (by kernel_rfl) (by kernel_rfl) ?st ?hX ?hX0 ?_ ?_
     case st=>
      intro i9 v u1 u2 h hb
      match i9 with
      | 0 | 1 | 3 | 4 | 6 | 7 | _+8=>exact h
      | 2 | 5=>exact RtIn.below h hb
     case hX=>exact fun L xs w L' xs' w' h he hb=>h.below (he 6 rfl) (he 7 rfl) hb
     case hX0=>exact fun xs=>FlowX.TwoBox.init _ _
     refine Flow.Steps.cons (.inl ⟨rfl,FlowX.StepS.of rfl ?s0⟩) (Flow.Steps.cons (.inl ⟨rfl,FlowX.StepS.of rfl ?s1⟩) (Flow.Steps.cons (.inl ⟨rfl,FlowX.StepS.of rfl ?s2⟩) (Flow.Steps.cons (.inl ⟨rfl,FlowX.StepS.of rfl ?s3⟩) (Flow.Steps.cons (.inl ⟨rfl,FlowX.StepS.of rfl ?s4⟩) (Flow.Steps.cons (.inl ⟨rfl,FlowX.StepS.of rfl ?s5⟩) (Flow.Steps.cons (.inr ⟨rfl,FlowX.StepX.of rfl ?s6⟩) (Flow.Steps.cons (.inr ⟨rfl,FlowX.StepX.of rfl ?s7⟩) zSn)))))))
     case s0 | s1 | s3 | s4=>
      intro L9 xs w' hb hT av K9 ae
      clear hT
      simp only[zFp,zAp,zLa,zLb,zLc,Nat.reduceAdd,zNz] at ae⊢
      have hw:=Flow.hwD aH.out hb
      obtain ⟨y0,y1,y2,y3⟩:=cells4 hw cD.out.1
      obtain ⟨z0,z1,z2,z3⟩:=cells4 hw af.out.1
      obtain ⟨u0,u1,u2,u3⟩:=cells4 hw af.out.2
      go_simp
      exact ae _ _ (ZR _ _) rfl
     case s2=>
      intro L9 xs w' hb hT av K9 ae
      have h0:(xs 0)=.agg #[.bool u1,.slice i1 j1 o1,.bool u2,.slice i2 j2 o2]:=(hT 0 (by kernel_rfl)).2
      have h1:(xs 1)=.agg #[.bool p1,.slice a1 c1 l1,.bool p2,.slice a2 c2 l2]:=(hT 1 (by kernel_rfl)).2
      clear hT
      simp only[zFp,zAp,zLa,zLb,zLc,Nat.reduceAdd,zNz] at ae⊢
      have hw:=Flow.hwD aH.out hb
      (try simp only[h0] at ae)
      (try simp only[h1] at ae)
      go_simp
      go_at_call 74
      refine (ratMul_any (cD.out.2.below hw) (am.out.1.below hw) (by omega) (by omega) (by have:=aK.out; omega)).mono ?_
      rintro e w3 ⟨v3,rfl,ar,al⟩
      exact ae _ _ al ar
     case s5=>
      intro L9 xs w' hb hT av K9 ae
      have h3:(xs 3)=.agg #[.bool u1,.slice i1 j1 o1,.bool u2,.slice i2 j2 o2]:=(hT 3 (by kernel_rfl)).2
      have h4:(xs 4)=.agg #[.bool t1,.slice b1 d1 m1,.bool t2,.slice b2 d2 m2]:=(hT 4 (by kernel_rfl)).2
      clear hT
      simp only[zFp,zAp,zLa,zLb,zLc,Nat.reduceAdd,zNz] at ae⊢
      have hw:=Flow.hwD aH.out hb
      (try simp only[h3] at ae)
      (try simp only[h4] at ae)
      go_simp
      go_at_call 74
      refine (ratMul_any (cD.out.2.below hw) (am.out.2.below hw) (by omega) (by omega) (by have:=aK.out; omega)).mono ?_
      rintro e w3 ⟨v3,rfl,ar,al⟩
      exact ae _ _ al ar
     case s6=>
      intro L9 xs w' hb hT av cI K9 ae
      clear hT
      simp only[zFp,zAp,zLa,zLb,zLc,Nat.reduceAdd,zNz] at ae⊢
      have hw:=Flow.hwD aH.out hb
      go_simp
      exact ae _ _ (hb.alloc hb.size _) ((ZR _ _).alloc (Nat.le_refl _) _) trivial (av.make1 hb.size (by decide))
     case s7=>
      intro L9 xs w' hb hT av cI K9 ae
      clear hT
      simp only[zFp,zAp,zLa,zLb,zLc,Nat.reduceAdd,zNz] at ae⊢
      have hw:=Flow.hwD aH.out hb
      go_simp
      exact ae _ _ (hb.alloc hb.size _) ((ZR _ _).alloc (Nat.le_refl _) _) trivial (av.make2 hb.size (by decide))
     intro xs w' hb hT av
     have hw:=Flow.hwD aH.out hb
     have h2:RtIn w' (xs 2) (q*(bnd (boxes D) a).1) (62+(bsz a+3)):=hT 2 (by rfl)
     have h5:RtIn w' (xs 5) (q*(bnd (boxes D) a).2) (62+(bsz a+3)):=hT 5 (by rfl)
     clear hT
     simp only[zFp,zAp,zLa,zLb,zLc,Nat.reduceAdd,zNz,FlowR.restL]
     obtain ⟨ba,bb,e8,e9,aA,cs,cj,ka,kb⟩:=av.both (by rfl) (by rfl)
     obtain ⟨ay,g3,i3,j3,ax,g4,i4,j4,e3⟩:=rt_shape h2
     obtain ⟨aG,g5,i5,j5,aF,g6,i6,j6,e7⟩:=rt_shape h5
     rw[e3] at h2
     rw[e7] at h5
     simp only[e3,e7,e8,e9]
     clear e3 e7 e8 e9 av
     obtain ⟨a8,aY,aR,aU⟩:=cells4 (ZR _ w') ka
     obtain ⟨aX,a0,aS,aV⟩:=cells4 (ZR _ w') kb
     obtain ⟨f0,aC,aB,aE⟩:=free4 ka
     obtain ⟨u0,u1,u2,u3⟩:=free4 kb
     have ak:=aA.symm
     have a6:w.heap.size≤ba:=Nat.le_trans aJ.out.size cs
     have a3:w.heap.size≤bb:=Nat.le_trans aJ.out.size cj
     have aj:=two_put ka kb aA a6 a3 (aJ.out.trans (hw.mono aJ.out.size)) h2 h5
     have aW:=(hw.block bl (ZL af.out.1)).trans af.out.1
     have a7:=(hw.block bh (ZL af.out.2)).trans af.out.2
     have aW:=aj.but bl _ (by have:=ZL af.out.1; omega) (by have:=ZL af.out.1; omega) aW
     have a7:=aj.but bh _ (by have:=ZL af.out.2; omega) (by have:=ZL af.out.2; omega) a7
     obtain ⟨w8,bM⟩:∃x,x=(((((((w'.setCell ⟨ba,0,none⟩ (.bool ay)).setCell ⟨ba,1,none⟩ (.slice g3 i3 j3)).setCell ⟨ba,2,none⟩ (.bool ax)).setCell ⟨ba,3,none⟩ (.slice g4 i4 j4)).setCell ⟨bb,0,none⟩ (.bool aG)).setCell ⟨bb,1,none⟩ (.slice g5 i5 j5)).setCell ⟨bb,2,none⟩ (.bool aF)).setCell ⟨bb,3,none⟩ (.slice g6 i6 j6):=⟨_,rfl⟩
     rw[←bM] at aj aW a7
     have az:=ZH aj
     have ap:=ZH (ZN aW a7)
     have aQ:=ZH (ZR w8.heap.size w8)
     clear aj aW a7 h2 h5 ka kb cs cj a6 a3 hb hw af am cD aJ aH
     go_upto_region 17 with fail
     rw[←bM]
     clear bM aA ak f0 aC aB aE u0 u1 u2 u3 a8 aY aR aU aX a0 aS aV
     refine FlowR.wp_region_sel (fun a b=>Below a.heap.size a b) (fun a=>ZR _ a) (fun _ _ _ h k=>h.trans (k.mono h.size)) [0,1,2,3,4,5] [false,false,false,false,false,false,false,false] [true,true,true,true,true,true,false,false] (fun i9 v w'=>match i9 with
      | 0=>v=.agg #[.bool ay,.slice g3 i3 j3,.bool ax,.slice g4 i4 j4]
      | 1=>v=.agg #[.bool aG,.slice g5 i5 j5,.bool aF,.slice g6 i6 j6]
      | 2=>RtIn w' v (mn (q*(bnd (boxes D) a).1) (q*(bnd (boxes D) a).2)) (62+(bsz a+3))
      | 3=>v=.agg #[.bool ay,.slice g3 i3 j3,.bool ax,.slice g4 i4 j4]
      | 4=>v=.agg #[.bool aG,.slice g5 i5 j5,.bool aF,.slice g6 i6 j6]
      | _=>RtIn w' v (mx (q*(bnd (boxes D) a).1) (q*(bnd (boxes D) a).2)) (62+(bsz a+3))) rfl rfl (by kernel_rfl) (by kernel_rfl) (by kernel_rfl) (by kernel_rfl) ?st ?_ ?_
     case st=>
      intro i9 v u1 u2 h hb
      match i9 with
      | 0 | 1 | 3 | 4=>exact h
      | 2 | 5 | _+6=>exact RtIn.below h hb
     refine zSc (zSo rfl ?s0) (zSc (zSo rfl ?s1) (zSc (zSo rfl ?s2) (zSc (zSo rfl ?s3) (zSc (zSo rfl ?s4) (zSc (zSo rfl ?s5) zSn)))))
     case s0 | s1 | s3 | s4=>
      intro xs w' hb hT K9 ae
      clear hT
      simp only[zFp,zAp,zLa,zLb,zLc,Nat.reduceAdd,zNz] at ae⊢
      have hw:=Flow.hwD aQ.out hb
      obtain ⟨y0,y1,y2,y3⟩:=cells4 hw az.out.kl
      obtain ⟨z0,z1,z2,z3⟩:=cells4 hw az.out.kh
      go_simp
      exact ae _ _ (ZR _ _) rfl
     case s2=>
      intro xs w' hb hT K9 ae
      have h0:(xs 0)=.agg #[.bool ay,.slice g3 i3 j3,.bool ax,.slice g4 i4 j4]:=hT 0 (by kernel_rfl)
      have h1:(xs 1)=.agg #[.bool aG,.slice g5 i5 j5,.bool aF,.slice g6 i6 j6]:=hT 1 (by kernel_rfl)
      clear hT
      simp only[zFp,zAp,zLa,zLb,zLc,Nat.reduceAdd,zNz] at ae⊢
      have hw:=Flow.hwD aQ.out hb
      (try simp only[h0] at ae)
      (try simp only[h1] at ae)
      go_simp
      go_at_call 75
      refine (ratMin_any (az.out.r1.below hw) (az.out.r2.below hw) (by omega) (by have:=aK.out; omega)).mono ?_
      rintro e w3 ⟨v3,rfl,ar,al⟩
      exact ae _ _ al ar
     case s5=>
      intro xs w' hb hT K9 ae
      have h3:(xs 3)=.agg #[.bool ay,.slice g3 i3 j3,.bool ax,.slice g4 i4 j4]:=hT 3 (by kernel_rfl)
      have h4:(xs 4)=.agg #[.bool aG,.slice g5 i5 j5,.bool aF,.slice g6 i6 j6]:=hT 4 (by kernel_rfl)
      clear hT
      simp only[zFp,zAp,zLa,zLb,zLc,Nat.reduceAdd,zNz] at ae⊢
      have hw:=Flow.hwD aQ.out hb
      (try simp only[h3] at ae)
      (try simp only[h4] at ae)
      go_simp
      go_at_call 76
      refine (ratMax_any (az.out.r1.below hw) (az.out.r2.below hw) (by omega) (by have:=aK.out; omega)).mono ?_
      rintro e w3 ⟨v3,rfl,ar,al⟩
      exact ae _ _ al ar
     intro xs w' hb hT
     have hw:=Flow.hwD aQ.out hb
     have h2:RtIn w' (xs 2) (mn (q*(bnd (boxes D) a).1) (q*(bnd (boxes D) a).2)) (62+(bsz a+3)):=hT 2 (by rfl)
     have h5:RtIn w' (xs 5) (mx (q*(bnd (boxes D) a).1) (q*(bnd (boxes D) a).2)) (62+(bsz a+3)):=hT 5 (by rfl)
     clear hT
     simp only[zFp,zAp,zLa,zLb,zLc,Nat.reduceAdd,zNz,FlowR.restL,FlowR.orM,Bool.false_or]
     obtain ⟨bd,g7,i7,j7,bj,g8,i8,j8,e5⟩:=rt_shape h2
     obtain ⟨be,g9,i9,j9,bf,gx,ix,jx,aN⟩:=rt_shape h5
     rw[e5] at h2
     rw[aN] at h5
     simp only[e5,aN]
     clear e5 aN
     have ai:=(hw.block bl (ZL ap.out.1)).trans ap.out.1
     have ah:=(hw.block bh (ZL ap.out.2)).trans ap.out.2
     obtain ⟨a8,aY,aR,aU⟩:=cells4 (ZR _ w') ai
     obtain ⟨aX,a0,aS,aV⟩:=cells4 (ZR _ w') ah
     obtain ⟨f0,aC,aB,aE⟩:=free4 ai
     obtain ⟨u0,u1,u2,u3⟩:=free4 ah
     have aA:=ag.out.1
     have ak:=ag.out.1.symm
     have aj:=two_put ai ah ag.out.1 ag.out.2.2.2.1 ag.out.2.2.2.2 (az.out.below.trans (hw.mono az.out.below.size)) h2 h5
     obtain ⟨wd,aZ⟩:∃x,x=((((((((w'.setCell ⟨bl,0,none⟩ (.bool bd)).setCell ⟨bl,1,none⟩ (.slice g7 i7 j7)).setCell ⟨bl,2,none⟩ (.bool bj)).setCell ⟨bl,3,none⟩ (.slice g8 i8 j8)).setCell ⟨bh,0,none⟩ (.bool be)).setCell ⟨bh,1,none⟩ (.slice g9 i9 j9)).setCell ⟨bh,2,none⟩ (.bool bf)).setCell ⟨bh,3,none⟩ (.slice gx ix jx)):=⟨_,rfl⟩
     rw[←aZ] at aj
     have HD:=ZH aj
     clear aj ai ah hb hw h2 h5
     go_upto_region 23 with fail
     rw[←aZ]
     clear aZ f0 aC aB aE u0 u1 u2 u3 a8 aY aR aU aX a0 aS aV
     have ai:=HD.out.kl
     have ah:=HD.out.kh
     obtain ⟨f0,aC,aB,aE⟩:=free4 ai
     obtain ⟨u0,u1,u2,u3⟩:=free4 ah
     obtain ⟨z0,z1,z2,z3⟩:=cells4 (ZR _ wd) ai
     obtain ⟨y0,y1,y2,y3⟩:=cells4 (ZR _ wd) ah
     have aA:=ag.out.1
     have ak:=ag.out.1.symm
     have aj:=two_put ai ah ag.out.1 ag.out.2.2.2.1 ag.out.2.2.2.2 HD.out.below HD.out.r1 HD.out.r2
     have HF:=ZH aj.drew
     clear aj ai ah
     go_region
     go_wp2_with fail
     exact bodyPost_ret (v:=.tuple #[.agg #[.bool bd,.slice g7 i7 j7,.bool bj,.slice g8 i8 j8],.agg #[.bool be,.slice g9 i9 j9,.bool bf,.slice gx ix jx],.int .i64 0]) (by simp[results,Tryz.results26,go_sem,z0,z1,z2,z3,y0,y1,y2,y3]) rfl ⟨HF.out.below,.inl ⟨cC.out,_,_,rfl,by rw[bnd,aK.out.2,show bsz a+65=62+(bsz a+3) by omega]; exact HF.out.r1,by rw[bnd,aK.out.2,show bsz a+65=62+(bsz a+3) by omega]; exact HF.out.r2⟩⟩
    ·have e2:(o==2)=false:=by simpa using h2
     by_cases h5:o=5
     ·subst h5
      have bv:=ZH (show ∃a,x=.abs a from by
       have:=HN.out.2.2.2.2.2
       cases x with
       | abs a=>exact ⟨a,rfl⟩
       | _=>exact absurd this (by simp[opG]))
      obtain ⟨a,rfl⟩:=bv.out
      clear bv h2
      have bp:combTo 5 (boxes D) (argG (.abs a)) (argG (.abs a)).length=bnd (boxes D) a:=combTo_one 5 (boxes D) (l:=[a]) (by simp)
      have bE:2+bszs (argG (.abs a))≤bsz (.abs a):=asz_le (by simp[opG])
      rw[bp] at ao
      have am:=ZH (ZN (ao.out.1.more bE) (ao.out.2.more bE))
      have cb:=ZH (show (bnd (boxes D) a).1≤(bnd (boxes D) a).2 from by
       rcases bo.out.noabs with h9 | h9
       ·rw[NoAbs] at h9; exact h9.elim
       ·exact h9 a)
      have aK:=ZH (show 2≤bsz (.abs a)∧bsz (.abs a)≤100000 from ⟨bsz_two _,bo.out.size⟩)
      have af:=ZH aw.out
      have aJ:=ZH bF.out
      obtain ⟨ra,c5⟩:∃p,p=bnd (boxes D) a:=⟨_,rfl⟩
      rw[←c5] at am cb
      have cB:=ZH c5
      obtain ⟨KA,cS⟩:∃p,p=bsz (.abs a):=⟨_,rfl⟩
      rw[←cS] at am aK
      have cw:=ZH cS
      clear bp bE aw ao bF bm c5 cS
      go_upto_region 19 with fail
      clear x0 x1 x2 x3 x4
      refine FlowX.wp_region_mix (fun a b=>Below a.heap.size a b) (fun _ _ h=>h) [0,1,2,3,4,5] [true,true,true,true,true,true,false,false] (fun j9=>[4,5].contains j9) (fun i9 v w'=>match i9 with
       | 0=>v=.agg #[.bool p1,.slice a1 c1 l1,.bool p2,.slice a2 c2 l2]
       | 1=>RtIn w' v (ab ra.1) KA
       | 2=>v=.agg #[.bool t1,.slice b1 d1 m1,.bool t2,.slice b2 d2 m2]
       | 3=>RtIn w' v (ab ra.2) KA
       | 4=>True
       | _=>True) (FlowX.TwoBox wr.heap.size #[.bool false,.slice none 0 0,.bool false,.slice none 0 0] 43 4 5) rfl rfl (by kernel_rfl) (by kernel_rfl) (by kernel_rfl) (by kernel_rfl) ?st ?hX ?hX0 ?_ ?_
      case st=>
       intro i9 v u1 u2 h hb
       match i9 with
       | 0 | 2 | 4 | 5 | _+6=>exact h
       | 1 | 3=>exact RtIn.below h hb
      case hX=>exact fun L xs w L' xs' w' h he hb=>h.below (he 4 rfl) (he 5 rfl) hb
      case hX0=>exact fun xs=>FlowX.TwoBox.init _ _
      refine Flow.Steps.cons (.inl ⟨rfl,FlowX.StepS.of rfl ?s0⟩) (Flow.Steps.cons (.inl ⟨rfl,FlowX.StepS.of rfl ?s1⟩) (Flow.Steps.cons (.inl ⟨rfl,FlowX.StepS.of rfl ?s2⟩) (Flow.Steps.cons (.inl ⟨rfl,FlowX.StepS.of rfl ?s3⟩) (Flow.Steps.cons (.inr ⟨rfl,FlowX.StepX.of rfl ?s4⟩) (Flow.Steps.cons (.inr ⟨rfl,FlowX.StepX.of rfl ?s5⟩) zSn)))))
      case s0 | s2=>
       intro L9 xs w' hb hT av K9 ae
       clear hT
       simp only[zFp,zAp,zLa,zLb,zLc,Nat.reduceAdd,zNz] at ae⊢
       have hw:=Flow.hwD bi.out hb
       obtain ⟨y0,y1,y2,y3⟩:=cells4 hw af.out.1
       obtain ⟨z0,z1,z2,z3⟩:=cells4 hw af.out.2
       go_simp
       exact ae _ _ (ZR _ _) rfl
      case s1=>
       intro L9 xs w' hb hT av K9 ae
       have h0:(xs 0)=.agg #[.bool p1,.slice a1 c1 l1,.bool p2,.slice a2 c2 l2]:=(hT 0 (by kernel_rfl)).2
       clear hT
       simp only[zFp,zAp,zLa,zLb,zLc,Nat.reduceAdd,zNz] at ae⊢
       have hw:=Flow.hwD bi.out hb
       (try simp only[h0] at ae)
       go_simp
       go_at_call 77
       refine (ratAbs_any (am.out.1.below hw)).mono ?_
       rintro e w3 ⟨v3,rfl,ar,al⟩
       exact ae _ _ al ar
      case s3=>
       intro L9 xs w' hb hT av K9 ae
       have h2:(xs 2)=.agg #[.bool t1,.slice b1 d1 m1,.bool t2,.slice b2 d2 m2]:=(hT 2 (by kernel_rfl)).2
       clear hT
       simp only[zFp,zAp,zLa,zLb,zLc,Nat.reduceAdd,zNz] at ae⊢
       have hw:=Flow.hwD bi.out hb
       (try simp only[h2] at ae)
       go_simp
       go_at_call 77
       refine (ratAbs_any (am.out.2.below hw)).mono ?_
       rintro e w3 ⟨v3,rfl,ar,al⟩
       exact ae _ _ al ar
      case s4=>
       intro L9 xs w' hb hT av cI K9 ae
       clear hT
       simp only[zFp,zAp,zLa,zLb,zLc,Nat.reduceAdd,zNz] at ae⊢
       have hw:=Flow.hwD bi.out hb
       go_simp
       exact ae _ _ (hb.alloc hb.size _) ((ZR _ _).alloc (Nat.le_refl _) _) trivial (av.make1 hb.size (by decide))
      case s5=>
       intro L9 xs w' hb hT av cI K9 ae
       clear hT
       simp only[zFp,zAp,zLa,zLb,zLc,Nat.reduceAdd,zNz] at ae⊢
       have hw:=Flow.hwD bi.out hb
       go_simp
       exact ae _ _ (hb.alloc hb.size _) ((ZR _ _).alloc (Nat.le_refl _) _) trivial (av.make2 hb.size (by decide))
      intro xs w' hb hT av
      have hw:=Flow.hwD bi.out hb
      have h1:RtIn w' (xs 1) (ab ra.1) KA:=hT 1 (by rfl)
      have h3:RtIn w' (xs 3) (ab ra.2) KA:=hT 3 (by rfl)
      clear hT
      simp only[zFp,zAp,zLa,zLb,zLc,Nat.reduceAdd,zNz,FlowR.restL]
      obtain ⟨ba,bb,e8,e9,aA,cs,cj,ka,kb⟩:=av.both (by rfl) (by rfl)
      obtain ⟨ay,g3,i3,j3,ax,g4,i4,j4,e3⟩:=rt_shape h1
      obtain ⟨aG,g5,i5,j5,aF,g6,i6,j6,e7⟩:=rt_shape h3
      rw[e3] at h1
      rw[e7] at h3
      simp only[e3,e7,e8,e9]
      clear e3 e7 e8 e9 av
      obtain ⟨a8,aY,aR,aU⟩:=cells4 (ZR _ w') ka
      obtain ⟨aX,a0,aS,aV⟩:=cells4 (ZR _ w') kb
      obtain ⟨f0,aC,aB,aE⟩:=free4 ka
      obtain ⟨u0,u1,u2,u3⟩:=free4 kb
      have ak:=aA.symm
      have a6:w.heap.size≤ba:=Nat.le_trans aJ.out.size cs
      have a3:w.heap.size≤bb:=Nat.le_trans aJ.out.size cj
      have aj:=two_put ka kb aA a6 a3 (aJ.out.trans (hw.mono aJ.out.size)) h1 h3
      have aW:=(hw.block bl (ZL af.out.1)).trans af.out.1
      have a7:=(hw.block bh (ZL af.out.2)).trans af.out.2
      have aW:=aj.but bl _ (by have:=ZL af.out.1; omega) (by have:=ZL af.out.1; omega) aW
      have a7:=aj.but bh _ (by have:=ZL af.out.2; omega) (by have:=ZL af.out.2; omega) a7
      have bN:=ZN (((am.out.1.below hw).but (nodig4 ka) (But.set4 (b:=ba) w' (.bool ay) (.slice g3 i3 j3) (.bool ax) (.slice g4 i4 j4))).but (nodig4 (((But.set4 (b:=ba) w' (.bool ay) (.slice g3 i3 j3) (.bool ax) (.slice g4 i4 j4)).block bb ak (ZL kb)).trans kb)) (But.set4 (b:=bb) _ (.bool aG) (.slice g5 i5 j5) (.bool aF) (.slice g6 i6 j6))) (((am.out.2.below hw).but (nodig4 ka) (But.set4 (b:=ba) w' (.bool ay) (.slice g3 i3 j3) (.bool ax) (.slice g4 i4 j4))).but (nodig4 (((But.set4 (b:=ba) w' (.bool ay) (.slice g3 i3 j3) (.bool ax) (.slice g4 i4 j4)).block bb ak (ZL kb)).trans kb)) (But.set4 (b:=bb) _ (.bool aG) (.slice g5 i5 j5) (.bool aF) (.slice g6 i6 j6)))
      obtain ⟨w8,bM⟩:∃x,x=(((((((w'.setCell ⟨ba,0,none⟩ (.bool ay)).setCell ⟨ba,1,none⟩ (.slice g3 i3 j3)).setCell ⟨ba,2,none⟩ (.bool ax)).setCell ⟨ba,3,none⟩ (.slice g4 i4 j4)).setCell ⟨bb,0,none⟩ (.bool aG)).setCell ⟨bb,1,none⟩ (.slice g5 i5 j5)).setCell ⟨bb,2,none⟩ (.bool aF)).setCell ⟨bb,3,none⟩ (.slice g6 i6 j6):=⟨_,rfl⟩
      rw[←bM] at aj aW a7 bN
      have az:=ZH aj
      have ap:=ZH (ZN aW a7)
      have cX:=ZH bN
      have aQ:=ZH (ZR w8.heap.size w8)
      clear aj aW a7 h1 h3 ka kb cs cj a6 a3 hb hw bN af am aJ
      go_upto_region 20 with fail
      rw[←bM]
      clear bM aA ak f0 aC aB aE u0 u1 u2 u3 a8 aY aR aU aX a0 aS aV
      obtain ⟨S1,cR⟩:∃s,s=cmpI ra.1.num 0:=⟨_,rfl⟩
      obtain ⟨S2,cY⟩:∃s,s=cmpI ra.2.num 0:=⟨_,rfl⟩
      obtain ⟨SP,bQ⟩:∃s,s=S1*S2:=⟨_,rfl⟩
      have hSP:IntKind.i64.wrap (S1*S2)=SP:=by
       rw[bQ]
       have h1:=sign_cases ra.1
       have h2:=sign_cases ra.2
       rw[←cR] at h1
       rw[←cY] at h2
       rcases h1 with h1 | h1 | h1<;>rcases h2 with h2 | h2 | h2<;>rw[h1,h2]<;>rfl
      have HS:=ZH (ZN cR (ZN cY bQ))
      clear cR cY bQ
      refine FlowR.wp_region_sel (fun a b=>Below a.heap.size a b) (fun a=>ZR _ a) (fun _ _ _ h k=>h.trans (k.mono h.size)) [0,1,2,3,4,5] [false,false,false,false,false,false] [true,true,true,true,true,true] (fun i9 v w'=>match i9 with
       | 0=>v=.agg #[.bool p1,.slice a1 c1 l1,.bool p2,.slice a2 c2 l2]
       | 1=>v=.int .i64 S1
       | 2=>v=.agg #[.bool t1,.slice b1 d1 m1,.bool t2,.slice b2 d2 m2]
       | 3=>v=.int .i64 S2
       | 4=>v=.int .i64 SP
       | _=>v=.bool (decide (SP≤0))) rfl rfl (by kernel_rfl) (by kernel_rfl) (by kernel_rfl) (by kernel_rfl) ?st ?_ ?_
      case st=>
       intro i9 v u1 u2 h hb
       match i9 with
       | 0 | 1 | 2 | 3 | 4 | 5 | _+6=>exact h
      refine zSc (zSo rfl ?s0) (zSc (zSo rfl ?s1) (zSc (zSo rfl ?s2) (zSc (zSo rfl ?s3) (zSc (zSo rfl ?s4) (zSc (zSo rfl ?s5) zSn)))))
      case s0 | s2=>
       intro xs w' hb hT K9 ae
       clear hT
       simp only[zFp,zAp,zLa,zLb,zLc,Nat.reduceAdd,zNz] at ae⊢
       have hw:=Flow.hwD aQ.out hb
       obtain ⟨y0,y1,y2,y3⟩:=cells4 hw ap.out.1
       obtain ⟨z0,z1,z2,z3⟩:=cells4 hw ap.out.2
       go_simp
       exact ae _ _ (ZR _ _) rfl
      case s1=>
       intro xs w' hb hT K9 ae
       have h0:(xs 0)=.agg #[.bool p1,.slice a1 c1 l1,.bool p2,.slice a2 c2 l2]:=hT 0 (by kernel_rfl)
       clear hT
       simp only[zFp,zAp,zLa,zLb,zLc,Nat.reduceAdd,zNz] at ae⊢
       have hw:=Flow.hwD aQ.out hb
       (try simp only[h0] at ae)
       go_simp
       go_at_call 28
       refine (ratSign_any (cX.out.1.below hw)).mono ?_
       rintro e w3 ⟨ce,al⟩
       rw[←HS.out.1] at ce
       subst ce
       exact ae _ _ al rfl
      case s3=>
       intro xs w' hb hT K9 ae
       have h2:(xs 2)=.agg #[.bool t1,.slice b1 d1 m1,.bool t2,.slice b2 d2 m2]:=hT 2 (by kernel_rfl)
       clear hT
       simp only[zFp,zAp,zLa,zLb,zLc,Nat.reduceAdd,zNz] at ae⊢
       have hw:=Flow.hwD aQ.out hb
       (try simp only[h2] at ae)
       go_simp
       go_at_call 28
       refine (ratSign_any (cX.out.2.below hw)).mono ?_
       rintro e w3 ⟨ce,al⟩
       rw[←HS.out.2.1] at ce
       subst ce
       exact ae _ _ al rfl
      case s4=>
       intro xs w' hb hT K9 ae
       have h1:(xs 1)=.int .i64 S1:=hT 1 (by kernel_rfl)
       have h3:(xs 3)=.int .i64 S2:=hT 3 (by kernel_rfl)
       clear hT
       simp only[zFp,zAp,zLa,zLb,zLc,Nat.reduceAdd,zNz] at ae⊢
       have hw:=Flow.hwD aQ.out hb
       (try simp only[h1] at ae)
       (try simp only[h3] at ae)
       go_simp
       exact ae _ _ (ZR _ _) rfl
      case s5=>
       intro xs w' hb hT K9 ae
       have h4:(xs 4)=.int .i64 SP:=hT 4 (by kernel_rfl)
       clear hT
       simp only[zFp,zAp,zLa,zLb,zLc,Nat.reduceAdd,zNz] at ae⊢
       have hw:=Flow.hwD aQ.out hb
       (try simp only[h4] at ae)
       go_simp
       exact ae _ _ (ZR _ _) rfl
      intro xs w' hb hT
      have hw:=Flow.hwD aQ.out hb
      have h5:(xs 5)=.bool (decide (SP≤0)):=hT 5 (by rfl)
      clear hT
      simp only[zFp,zAp,zLa,zLb,zLc,Nat.reduceAdd,zNz,FlowR.restL,FlowR.orM,Bool.false_or]
      obtain ⟨w9,cG⟩:∃x,x=w':=⟨_,rfl⟩
      have au:=ZH (show RtIn w9 (.agg #[.bool ay,.slice g3 i3 j3,.bool ax,.slice g4 i4 j4]) (ab ra.1) KA∧RtIn w9 (.agg #[.bool aG,.slice g5 i5 j5,.bool aF,.slice g6 i6 j6]) (ab ra.2) KA∧w9.heap[ba]?=some (.cells #[.bool ay,.slice g3 i3 j3,.bool ax,.slice g4 i4 j4] 43 (0,0))∧w9.heap[bb]?=some (.cells #[.bool aG,.slice g5 i5 j5,.bool aF,.slice g6 i6 j6] 43 (0,0))∧w9.heap[bl]?=some (.cells #[.bool p1,.slice a1 c1 l1,.bool p2,.slice a2 c2 l2] 43 (0,0))∧w9.heap[bh]?=some (.cells #[.bool t1,.slice b1 d1 m1,.bool t2,.slice b2 d2 m2] 43 (0,0))∧Below w.heap.size w w9 from by
       rw[cG]
       exact ⟨az.out.r1.below hw,az.out.r2.below hw,(hw.block ba (ZL az.out.kl)).trans az.out.kl,(hw.block bb (ZL az.out.kh)).trans az.out.kh,(hw.block bl (ZL ap.out.1)).trans ap.out.1,(hw.block bh (ZL ap.out.2)).trans ap.out.2,az.out.below.trans (hw.mono az.out.below.size)⟩)
      have aD:=ZH (ZR w9.heap.size w9)
      have ck:=signs_across cb.out
      rw[←HS.out.1,←HS.out.2.1,←HS.out.2.2] at ck
      rw[←cG]
      simp only[h5]
      clear cG h5 hw hb hSP HS az ap cX aQ bi
      obtain ⟨tz,bc⟩:∃b,b=decide (SP≤0):=⟨_,rfl⟩
      rw[←bc]
      by_cases hz:SP≤0
      ·obtain rfl:tz=true:=by rw[bc]; exact ZT hz
       have cu:=ZH (ck.1 hz)
       clear ck bc
       go_upto_region 21 with fail
       clear hz
       refine FlowR.wp_region_sel (fun a b=>Below a.heap.size a b) (fun a=>ZR _ a) (fun _ _ _ h k=>h.trans (k.mono h.size)) [0,1,2,3] [false,false,false,false,false,false] [true,true,true,true,false,false] (fun i9 v w'=>match i9 with
        | 0=>RtIn w' v 0 KA
        | 1=>v=.agg #[.bool ay,.slice g3 i3 j3,.bool ax,.slice g4 i4 j4]
        | 2=>v=.agg #[.bool aG,.slice g5 i5 j5,.bool aF,.slice g6 i6 j6]
        | _=>RtIn w' v (mx (ab ra.1) (ab ra.2)) KA) rfl rfl (by kernel_rfl) (by kernel_rfl) (by kernel_rfl) (by kernel_rfl) ?st ?_ ?_
       case st=>
        intro i9 v u1 u2 h hb
        match i9 with
        | 0 | 3 | _+4=>exact RtIn.below h hb
        | 1 | 2=>exact h
       refine zSc (zSo rfl ?s0) (zSc (zSo rfl ?s1) (zSc (zSo rfl ?s2) (zSc (zSo rfl ?s3) zSn)))
       case s0=>
        intro xs w' hb hT K9 ae
        clear hT
        simp only[zFp,zAp,zLa,zLb,zLc,Nat.reduceAdd,zNz] at ae⊢
        have hw:=Flow.hwD aD.out hb
        go_simp
        go_at_call 23
        refine (ratFrom_any (w:=w') (n:=0) (by omega) (by omega)).mono ?_
        rintro e w3 ⟨v3,rfl,ar,al⟩
        exact ae _ _ al (by have h9:=ar.more (show 2≤KA from aK.out.1); simpa using h9)
       case s1 | s2=>
        intro xs w' hb hT K9 ae
        clear hT
        simp only[zFp,zAp,zLa,zLb,zLc,Nat.reduceAdd,zNz] at ae⊢
        have hw:=Flow.hwD aD.out hb
        obtain ⟨y0,y1,y2,y3⟩:=cells4 hw au.out.2.2.1
        obtain ⟨z0,z1,z2,z3⟩:=cells4 hw au.out.2.2.2.1
        go_simp
        exact ae _ _ (ZR _ _) rfl
       case s3=>
        intro xs w' hb hT K9 ae
        have h1:(xs 1)=.agg #[.bool ay,.slice g3 i3 j3,.bool ax,.slice g4 i4 j4]:=hT 1 (by kernel_rfl)
        have h2:(xs 2)=.agg #[.bool aG,.slice g5 i5 j5,.bool aF,.slice g6 i6 j6]:=hT 2 (by kernel_rfl)
        clear hT
        simp only[zFp,zAp,zLa,zLb,zLc,Nat.reduceAdd,zNz] at ae⊢
        have hw:=Flow.hwD aD.out hb
        (try simp only[h1] at ae)
        (try simp only[h2] at ae)
        go_simp
        go_at_call 76
        refine (ratMax_any (au.out.1.below hw) (au.out.2.1.below hw) (by have:=aK.out; omega) (by have:=aK.out; omega)).mono ?_
        rintro e w3 ⟨v3,rfl,ar,al⟩
        exact ae _ _ al ar
       intro xs w' hb hT
       have hw:=Flow.hwD aD.out hb
       have h0:RtIn w' (xs 0) 0 KA:=hT 0 (by rfl)
       have h3:RtIn w' (xs 3) (mx (ab ra.1) (ab ra.2)) KA:=hT 3 (by rfl)
       clear hT
       simp only[zFp,zAp,zLa,zLb,zLc,Nat.reduceAdd,zNz,FlowR.restL,FlowR.orM,Bool.false_or]
       obtain ⟨bd,g7,i7,j7,bj,g8,i8,j8,e5⟩:=rt_shape h0
       obtain ⟨be,g9,i9,j9,bf,gx,ix,jx,aN⟩:=rt_shape h3
       rw[e5] at h0
       rw[aN] at h3
       simp only[e5,aN]
       clear e5 aN
       have ai:=(hw.block bl (ZL au.out.2.2.2.2.1)).trans au.out.2.2.2.2.1
       have ah:=(hw.block bh (ZL au.out.2.2.2.2.2.1)).trans au.out.2.2.2.2.2.1
       obtain ⟨a8,aY,aR,aU⟩:=cells4 (ZR _ w') ai
       obtain ⟨aX,a0,aS,aV⟩:=cells4 (ZR _ w') ah
       obtain ⟨f0,aC,aB,aE⟩:=free4 ai
       obtain ⟨u0,u1,u2,u3⟩:=free4 ah
       have aA:=ag.out.1
       have ak:=ag.out.1.symm
       have aj:=two_put ai ah ag.out.1 ag.out.2.2.2.1 ag.out.2.2.2.2 (au.out.2.2.2.2.2.2.trans (hw.mono au.out.2.2.2.2.2.2.size)) h0 h3
       obtain ⟨wd,aZ⟩:∃x,x=((((((((w'.setCell ⟨bl,0,none⟩ (.bool bd)).setCell ⟨bl,1,none⟩ (.slice g7 i7 j7)).setCell ⟨bl,2,none⟩ (.bool bj)).setCell ⟨bl,3,none⟩ (.slice g8 i8 j8)).setCell ⟨bh,0,none⟩ (.bool be)).setCell ⟨bh,1,none⟩ (.slice g9 i9 j9)).setCell ⟨bh,2,none⟩ (.bool bf)).setCell ⟨bh,3,none⟩ (.slice gx ix jx)):=⟨_,rfl⟩
       rw[←aZ] at aj
       have HD:=ZH aj
       clear aj ai ah hb hw h0 h3
       go_upto_region 23 with fail
       rw[←aZ]
       clear aZ f0 aC aB aE u0 u1 u2 u3 a8 aY aR aU aX a0 aS aV
       have ai:=HD.out.kl
       have ah:=HD.out.kh
       obtain ⟨f0,aC,aB,aE⟩:=free4 ai
       obtain ⟨u0,u1,u2,u3⟩:=free4 ah
       obtain ⟨z0,z1,z2,z3⟩:=cells4 (ZR _ wd) ai
       obtain ⟨y0,y1,y2,y3⟩:=cells4 (ZR _ wd) ah
       have aA:=ag.out.1
       have ak:=ag.out.1.symm
       have aj:=two_put ai ah ag.out.1 ag.out.2.2.2.1 ag.out.2.2.2.2 HD.out.below HD.out.r1 HD.out.r2
       have HF:=ZH aj.drew
       clear aj ai ah
       go_region
       go_wp2_with fail
       exact bodyPost_ret (v:=.tuple #[.agg #[.bool bd,.slice g7 i7 j7,.bool bj,.slice g8 i8 j8],.agg #[.bool be,.slice g9 i9 j9,.bool bf,.slice gx ix jx],.int .i64 0]) (by simp[results,Tryz.results26,go_sem,z0,z1,z2,z3,y0,y1,y2,y3]) rfl ⟨HF.out.below,.inl ⟨cC.out,_,_,rfl,by rw[bnd_abs,←cB.out,if_pos cu.out,←cw.out]; exact HF.out.r1,by rw[bnd_abs,←cB.out,if_pos cu.out,←cw.out]; exact HF.out.r2⟩⟩
      ·obtain rfl:tz=false:=by rw[bc]; exact ZU hz
       have cu:=ZH (show ¬(ra.1≤0∧0≤ra.2) from fun h=>hz (ck.2 h))
       clear ck bc
       go_upto_region 22 with fail
       clear hz
       refine FlowR.wp_region_sel (fun a b=>Below a.heap.size a b) (fun a=>ZR _ a) (fun _ _ _ h k=>h.trans (k.mono h.size)) [0,1,2,3,4,5] [false,false,false,false,false,false,false,false] [true,true,true,true,true,true,false,false] (fun i9 v w'=>match i9 with
        | 0=>v=.agg #[.bool ay,.slice g3 i3 j3,.bool ax,.slice g4 i4 j4]
        | 1=>v=.agg #[.bool aG,.slice g5 i5 j5,.bool aF,.slice g6 i6 j6]
        | 2=>RtIn w' v (mn (ab ra.1) (ab ra.2)) KA
        | 3=>v=.agg #[.bool ay,.slice g3 i3 j3,.bool ax,.slice g4 i4 j4]
        | 4=>v=.agg #[.bool aG,.slice g5 i5 j5,.bool aF,.slice g6 i6 j6]
        | _=>RtIn w' v (mx (ab ra.1) (ab ra.2)) KA) rfl rfl (by kernel_rfl) (by kernel_rfl) (by kernel_rfl) (by kernel_rfl) ?st ?_ ?_
       case st=>
        intro i9 v u1 u2 h hb
        match i9 with
        | 0 | 1 | 3 | 4=>exact h
        | 2 | 5 | _+6=>exact RtIn.below h hb
       refine zSc (zSo rfl ?s0) (zSc (zSo rfl ?s1) (zSc (zSo rfl ?s2) (zSc (zSo rfl ?s3) (zSc (zSo rfl ?s4) (zSc (zSo rfl ?s5) zSn)))))
       case s0 | s1 | s3 | s4=>
        intro xs w' hb hT K9 ae
        clear hT
        simp only[zFp,zAp,zLa,zLb,zLc,Nat.reduceAdd,zNz] at ae⊢
        have hw:=Flow.hwD aD.out hb
        obtain ⟨y0,y1,y2,y3⟩:=cells4 hw au.out.2.2.1
        obtain ⟨z0,z1,z2,z3⟩:=cells4 hw au.out.2.2.2.1
        go_simp
        exact ae _ _ (ZR _ _) rfl
       case s2=>
        intro xs w' hb hT K9 ae
        have h0:(xs 0)=.agg #[.bool ay,.slice g3 i3 j3,.bool ax,.slice g4 i4 j4]:=hT 0 (by kernel_rfl)
        have h1:(xs 1)=.agg #[.bool aG,.slice g5 i5 j5,.bool aF,.slice g6 i6 j6]:=hT 1 (by kernel_rfl)
        clear hT
        simp only[zFp,zAp,zLa,zLb,zLc,Nat.reduceAdd,zNz] at ae⊢
        have hw:=Flow.hwD aD.out hb
        (try simp only[h0] at ae)
        (try simp only[h1] at ae)
        go_simp
        go_at_call 75
        refine (ratMin_any (au.out.1.below hw) (au.out.2.1.below hw) (by have:=aK.out; omega) (by have:=aK.out; omega)).mono ?_
        rintro e w3 ⟨v3,rfl,ar,al⟩
        exact ae _ _ al ar
       case s5=>
        intro xs w' hb hT K9 ae
        have h3:(xs 3)=.agg #[.bool ay,.slice g3 i3 j3,.bool ax,.slice g4 i4 j4]:=hT 3 (by kernel_rfl)
        have h4:(xs 4)=.agg #[.bool aG,.slice g5 i5 j5,.bool aF,.slice g6 i6 j6]:=hT 4 (by kernel_rfl)
        clear hT
        simp only[zFp,zAp,zLa,zLb,zLc,Nat.reduceAdd,zNz] at ae⊢
        have hw:=Flow.hwD aD.out hb
        (try simp only[h3] at ae)
        (try simp only[h4] at ae)
        go_simp
        go_at_call 76
        refine (ratMax_any (au.out.1.below hw) (au.out.2.1.below hw) (by have:=aK.out; omega) (by have:=aK.out; omega)).mono ?_
        rintro e w3 ⟨v3,rfl,ar,al⟩
        exact ae _ _ al ar
       intro xs w' hb hT
       have hw:=Flow.hwD aD.out hb
       have h2:RtIn w' (xs 2) (mn (ab ra.1) (ab ra.2)) KA:=hT 2 (by rfl)
       have h5:RtIn w' (xs 5) (mx (ab ra.1) (ab ra.2)) KA:=hT 5 (by rfl)
       clear hT
       simp only[zFp,zAp,zLa,zLb,zLc,Nat.reduceAdd,zNz,FlowR.restL,FlowR.orM,Bool.false_or]
       obtain ⟨bd,g7,i7,j7,bj,g8,i8,j8,e5⟩:=rt_shape h2
       obtain ⟨be,g9,i9,j9,bf,gx,ix,jx,aN⟩:=rt_shape h5
       rw[e5] at h2
       rw[aN] at h5
       simp only[e5,aN]
       clear e5 aN
       have ai:=(hw.block bl (ZL au.out.2.2.2.2.1)).trans au.out.2.2.2.2.1
       have ah:=(hw.block bh (ZL au.out.2.2.2.2.2.1)).trans au.out.2.2.2.2.2.1
       obtain ⟨a8,aY,aR,aU⟩:=cells4 (ZR _ w') ai
       obtain ⟨aX,a0,aS,aV⟩:=cells4 (ZR _ w') ah
       obtain ⟨f0,aC,aB,aE⟩:=free4 ai
       obtain ⟨u0,u1,u2,u3⟩:=free4 ah
       have aA:=ag.out.1
       have ak:=ag.out.1.symm
       have aj:=two_put ai ah ag.out.1 ag.out.2.2.2.1 ag.out.2.2.2.2 (au.out.2.2.2.2.2.2.trans (hw.mono au.out.2.2.2.2.2.2.size)) h2 h5
       obtain ⟨wd,aZ⟩:∃x,x=((((((((w'.setCell ⟨bl,0,none⟩ (.bool bd)).setCell ⟨bl,1,none⟩ (.slice g7 i7 j7)).setCell ⟨bl,2,none⟩ (.bool bj)).setCell ⟨bl,3,none⟩ (.slice g8 i8 j8)).setCell ⟨bh,0,none⟩ (.bool be)).setCell ⟨bh,1,none⟩ (.slice g9 i9 j9)).setCell ⟨bh,2,none⟩ (.bool bf)).setCell ⟨bh,3,none⟩ (.slice gx ix jx)):=⟨_,rfl⟩
       rw[←aZ] at aj
       have HD:=ZH aj
       clear aj ai ah hb hw h2 h5
       go_upto_region 23 with fail
       rw[←aZ]
       clear aZ f0 aC aB aE u0 u1 u2 u3 a8 aY aR aU aX a0 aS aV
       have ai:=HD.out.kl
       have ah:=HD.out.kh
       obtain ⟨f0,aC,aB,aE⟩:=free4 ai
       obtain ⟨u0,u1,u2,u3⟩:=free4 ah
       obtain ⟨z0,z1,z2,z3⟩:=cells4 (ZR _ wd) ai
       obtain ⟨y0,y1,y2,y3⟩:=cells4 (ZR _ wd) ah
       have aA:=ag.out.1
       have ak:=ag.out.1.symm
       have aj:=two_put ai ah ag.out.1 ag.out.2.2.2.1 ag.out.2.2.2.2 HD.out.below HD.out.r1 HD.out.r2
       have HF:=ZH aj.drew
       clear aj ai ah
       go_region
       go_wp2_with fail
       exact bodyPost_ret (v:=.tuple #[.agg #[.bool bd,.slice g7 i7 j7,.bool bj,.slice g8 i8 j8],.agg #[.bool be,.slice g9 i9 j9,.bool bf,.slice gx ix jx],.int .i64 0]) (by simp[results,Tryz.results26,go_sem,z0,z1,z2,z3,y0,y1,y2,y3]) rfl ⟨HF.out.below,.inl ⟨cC.out,_,_,rfl,by rw[bnd_abs,←cB.out,if_neg cu.out,←cw.out]; exact HF.out.r1,by rw[bnd_abs,←cB.out,if_neg cu.out,←cw.out]; exact HF.out.r2⟩⟩
     ·have e5:(o==5)=false:=by simpa using h5
      have bp:combTo o (boxes D) (argG x) (argG x).length=bnd (boxes D) x:=by
       have h3:=HN.out.2.2.2.2.2
       have h0:=cq.out
       cases x with
       | form f=>exact absurd h3 h0
       | scale q a=>exact absurd h3 h2
       | abs a=>exact absurd h3 h5
       | add l=>rw[h3]; exact comb_add _ _
       | min l=>rw[h3]; exact comb_min _ _
       | max l=>rw[h3]; exact comb_max _ _
      have cV:2+bszs (argG x)≤bsz x:=asz_le (by rw[←HN.out.2.2.2.2.2]; exact cq.out)
      rw[bp] at ao
      have b8:=ZH (ZN (ao.out.1.more cV) (ao.out.2.more cV))
      clear h2 h5 bp cV bi bm ao
      go_upto_region 23 with fail
      clear x0 x1 x2 x3 x4
      have ai:=aw.out.1
      have ah:=aw.out.2
      obtain ⟨f0,aC,aB,aE⟩:=free4 ai
      obtain ⟨u0,u1,u2,u3⟩:=free4 ah
      obtain ⟨z0,z1,z2,z3⟩:=cells4 (ZR _ wr) ai
      obtain ⟨y0,y1,y2,y3⟩:=cells4 (ZR _ wr) ah
      have aA:=ag.out.1
      have ak:=ag.out.1.symm
      have aj:=two_put ai ah ag.out.1 ag.out.2.2.2.1 ag.out.2.2.2.2 bF.out b8.out.1 b8.out.2
      have HF:=ZH aj.drew
      clear aj ai ah
      go_region
      go_wp2_with fail
      exact bodyPost_ret (v:=.tuple #[.agg #[.bool p1,.slice a1 c1 l1,.bool p2,.slice a2 c2 l2],.agg #[.bool t1,.slice b1 d1 m1,.bool t2,.slice b2 d2 m2],.int .i64 0]) (by simp[results,Tryz.results26,go_sem,z0,z1,z2,z3,y0,y1,y2,y3]) rfl ⟨HF.out.below,.inl ⟨cC.out,_,_,rfl,HF.out.r1,HF.out.r2⟩⟩
theorem mBounds_all {n:Nat} (hn:n≤900) {D:List Dm} (hD:dmFine D):∀(m:Nat) (x:GEx),dep x≤m→BndFit n (boxes D) x→∀(w:World) (v:Value) (ad:Option Addr) (cd:Nat),Glob w→DimsIn w ad cd D→ExIn w (raw x) v→Calls Tryz.prog 26 #[v,.slice ad D.length cd] w (BndG w D x)
 | 0,x,hm,_=>by cases x<;>rw[dep] at hm<;>omega
 | m+1,x,hm,hf=>fun w v ad cd hg hd hx=>mBounds_step hn hD x (fun j hj=>mBounds_all hn hD m _ (by have:=arg_dep hj; omega) (hf.arg hj)) hf hg hd hx
theorem mBounds_any {n:Nat} (hn:n≤900) {D:List Dm} (hD:dmFine D) (m:Nat) (x:GEx) (hm:dep x≤m) (hf:BndFine n D.length x) (w:World) (v:Value) (ad:Option Addr) (cd:Nat) (hg:Glob w) (hd:DimsIn w ad cd D) (hx:ExIn w (raw x) v):Calls Tryz.prog 26 #[v,.slice ad D.length cd] w (BndPost w (boxes D) x):=by
 refine (mBounds_all hn hD m x hm ⟨hf.over,hf.lite,.inl hf.noabs,hf.size⟩ w v ad cd hg hd hx).mono ?_
 rintro e w' ⟨hb,⟨-,lo,hi,he,h1,h2⟩ | ⟨hu,-⟩⟩
 ·exact ⟨lo,hi,he,h1,h2,hb⟩
 ·exact absurd hf.upto hu
end Go.Proofs.YtdgimcmappmjdaaGreatDoor

