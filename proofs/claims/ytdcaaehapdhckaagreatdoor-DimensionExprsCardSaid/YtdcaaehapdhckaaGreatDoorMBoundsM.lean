/- dimension.pick, Bounds. -/
import Derived.Test.YtdcaaehapdhckaaGreatDoorMSpreadM
import Derived.Test.YtdcaaehapdhckaaGreatDoorK1
import Derived.Test.YtdcaaehapdhckaaGreatDoorKN
import Derived.Test.YtdcaaehapdhckaaGreatDoorK9
import Derived.Test.YtdcaaehapdhckaaGreatDoorKC
import Derived.RegionTactic
import Derived.ChangeAlike
set_option linter.unusedSimpArgs false
set_option linter.unusedVariables false
set_option maxRecDepth 100000
namespace Go.Proofs.YtdcaaehapdhckaaGreatDoor
open List renaming setIfInBounds_toArray → zLa, set_cons_zero → zLb, set_cons_succ → zLc
open FlowR renaming putSel → zFp
open Act renaming put → zAp
open Nat renaming zero_add → zNz
open Flow.Steps renaming cons → zSc, nil → zSn
open FlowR.Step renaming of → zSo
open Go.RowKit Go.Num Go.Flow
open Go.Gx (LF GEx mn mx ab bnd bnds dep Over)
set_option maxHeartbeats 8000000
set_option linter.unusedVariables false

def pickF (o:Int):Nat:=if o=3 then 76 else if o=4 then 77 else 59
theorem enters_pick (o:Int) (args:Array Value) (w:World):(callFunc (pickF o) args).run Tryz.prog w=.ok (.enter (pickF o) args) w:=by
 unfold pickF
 split
 ·exact enters_of Tryz.func76 (by kernel_rfl) rfl args w
 ·split
  ·exact enters_of Tryz.func77 (by kernel_rfl) rfl args w
  ·exact enters_of Tryz.func59 (by kernel_rfl) rfl args w
theorem pick_any {w:World} {o:Int} {va vb:Value} {r s:Rat} {k m:Nat} (ha:RtIn w va r k) (hb:RtIn w vb s m) (hk:2≤k) (hm:2≤m) (hkm:k+m+1≤400000):Calls Tryz.prog (pickF o) #[va,vb] w fun e w'=>∃v,e=.returned v∧RtIn w' v (fop o r s) (k+m+1)∧Below w.heap.size w w':=by
 unfold pickF fop
 by_cases h3:o=3
 ·rw[if_pos h3,if_pos h3]
  exact (ratMin_any (ha.more (show k≤k+m+1 by omega)) (hb.more (show m≤k+m+1 by omega)) (by omega) (by omega))
 ·rw[if_neg h3,if_neg h3]
  by_cases h4:o=4
  ·rw[if_pos h4,if_pos h4]
   exact (ratMax_any (ha.more (show k≤k+m+1 by omega)) (hb.more (show m≤k+m+1 by omega)) (by omega) (by omega))
  ·rw[if_neg h4,if_neg h4]
   exact ratAdd_any ha hb hk hm (by omega)
theorem mpick_any {w:World} (o:Int):Calls Tryz.prog 69 #[.int .i64 o] w fun e w'=>e=.returned (.func (.func (pickF o)) #[] #[])∧Below w.heap.size w w':=by
 by_cases h3:o=3
 ·subst h3
  go_enter Tryz.func69,Tryz.ntmps69
  go_wp2_with fail
  go_ret
  exact ⟨rfl,ZR _ _⟩
 ·have e3:(o==3)=false:=by simpa using h3
  by_cases h4:o=4
  ·subst h4
   go_enter Tryz.func69,Tryz.ntmps69
   go_wp2_with fail
   go_ret
   exact ⟨rfl,ZR _ _⟩
  ·have e4:(o==4)=false:=by simpa using h4
   have HP:=ZH (show pickF o = 59 by unfold pickF; rw[if_neg h3,if_neg h4])
   clear h3 h4
   go_enter Tryz.func69,Tryz.ntmps69
   go_wp2_with fail
   go_ret
   exact ⟨by rw[HP.out]; rfl,ZR _ _⟩
mutual
def NoAbs : GEx→Prop
 | .form _=>True
 | .scale _ a=>NoAbs a
 | .add l=>NoAbss l
 | .min l=>NoAbss l
 | .max l=>NoAbss l
 | .abs _=>False
def NoAbss : List GEx→Prop
 | []=>True
 | a::l=>NoAbs a∧NoAbss l
end
theorem noabs_at : ∀{l:List GEx} {j:Nat},NoAbss l→j<l.length→NoAbs (l.getD j (.add []))
 | [],j,_,h=>by simp at h
 | a::l,0,h,_=>by rw[NoAbss] at h; exact h.1
 | a::l,j+1,h,hj=>by rw[NoAbss] at h; exact noabs_at (l:=l) h.2 (by simpa using hj)
theorem arg_noabs {x:GEx} {j:Nat} (h:NoAbs x) (hj:j<(argG x).length):NoAbs ((argG x).getD j (.add [])):=by
 cases x with
 | form f=>simp[argG] at hj
 | scale k a=>
   obtain rfl:j=0:=by simpa[argG] using hj
   rw[NoAbs] at h; exact h
 | add l=>rw[NoAbs] at h; exact noabs_at h hj
 | min l=>rw[NoAbs] at h; exact noabs_at h hj
 | max l=>rw[NoAbs] at h; exact noabs_at h hj
 | abs a=>rw[NoAbs] at h; exact h.elim
def BndG (w:World) (D:List Dm) (x:GEx) (e:Ending) (w':World):Prop:=Below w.heap.size w w'∧((UptoG D.length x∧∃lo hi,e=.returned (.tuple #[lo,hi,.int .i64 0])∧RtIn w' lo (bnd (boxes D) x).1 (bsz x)∧RtIn w' hi (bnd (boxes D) x).2 (bsz x))∨(¬UptoG D.length x∧e=.returned (.tuple #[.agg #[.bool false,.slice none 0 0,.bool false,.slice none 0 0],.agg #[.bool false,.slice none 0 0,.bool false,.slice none 0 0],.int .i64 13])))
def BndPost (w:World) (B:List (Rat×Rat)) (x:GEx) (e:Ending) (w':World):Prop:=∃lo hi,e=.returned (.tuple #[lo,hi,.int .i64 0])∧RtIn w' lo (bnd B x).1 (bsz x)∧RtIn w' hi (bnd B x).2 (bsz x)∧Below w.heap.size w w'
structure BndFine (n m:Nat) (x:GEx):Prop where
 over:Over n x
 lite:Lite x
 upto:UptoG m x
 noabs:NoAbs x
 size:bsz x≤100000
structure BndFit (n:Nat) (B:List (Rat×Rat)) (x:GEx):Prop where
 over:Over n x
 lite:Lite x
 noabs:NoAbs x∨∀y:GEx,(bnd B y).1≤(bnd B y).2
 size:bsz x≤100000
theorem BndFit.arg {n:Nat} {B:List (Rat×Rat)} {x:GEx} (h:BndFit n B x) {j:Nat} (hj:j<(argG x).length):BndFit n B ((argG x).getD j (.add [])):=by
 refine ⟨arg_over h.over hj,arg_lite h.lite hj,h.noabs.imp (fun k=>arg_noabs k hj) id,?_⟩
 have h1:=asz_le (x:=x) (by cases x<;>simp[opG,argG] at hj⊢)
 have h2:=bszs_take hj
 have h3:=bszs_le (l:=argG x) (k:=j+1)
 have h4:=h.size
 unfold asz at h1
 omega
theorem bscale_text {n:Nat} {B:List (Rat×Rat)} {q:Rat} {a:GEx} (hfi:BndFit n B (.scale q a)):(numText q).length≤60:=by
 obtain ⟨h1,h2⟩:=hfi.lite
 have h3:=hfi.over
 rw[Go.Gx.Den] at h1
 rw[Go.Gx.wt] at h2
 rw[Over] at h3
 obtain ⟨d,r,e,h4,-⟩:=h1
 have h5:=Go.Gx.one_wt h3
 have h6:=Go.Gx.big_ab q
 have h7:=Go.Gx.big_one q
 refine (lite_num (r:=q) ?_ ?_).1
 ·have:=Go.Gx.m2_more h4 (20-d)
  rwa[show 20-d+d=20 by omega] at this
 ·have h8:Go.Gx.big q*1≤Go.Gx.big q*Go.Gx.wt a:=Rat.mul_le_mul_of_nonneg_left h5 (by grind)
  rw[Rat.mul_one] at h8
  exact Rat.le_trans h6 (Rat.le_trans h8 h2)
theorem sign_zero (r:Rat):(cmpI r.num 0≤0↔r≤0)∧(0≤cmpI r.num 0↔0≤r):=by
 have h1:(cmpI r.num 0≤0↔r.num≤0)∧(0≤cmpI r.num 0↔0≤r.num):=by
  unfold cmpI
  split
  ·exact ⟨⟨fun _=>by omega,fun _=>by omega⟩,⟨fun _=>by omega,fun _=>by omega⟩⟩
  ·split<;>exact ⟨⟨fun _=>by omega,fun _=>by omega⟩,⟨fun _=>by omega,fun _=>by omega⟩⟩
 rw[h1.1,h1.2]
 refine ⟨?_,Rat.num_nonneg⟩
 constructor
 ·intro h
  by_cases h0:r.num=0
  ·rw[Rat.num_eq_zero.1 h0]; exact Rat.le_refl
  ·have h3:¬0≤r:=fun h3=>by have:=Rat.num_nonneg.2 h3; omega
   exact Rat.le_of_lt (Rat.not_le.1 h3)
 ·intro h
  rcases Int.lt_or_le 0 r.num with h3 | h3
  ·have h5:r=0:=Rat.le_antisymm h (Rat.num_nonneg.1 (by omega))
   rw[h5] at h3
   exact absurd h3 (by decide)
  ·exact h3
theorem sign_cases (r:Rat):cmpI r.num 0 = -1∨cmpI r.num 0=0∨cmpI r.num 0=1:=by
 unfold cmpI
 split
 ·exact .inl rfl
 ·split
  ·exact .inr (.inr rfl)
  ·exact .inr (.inl rfl)
theorem signs_across {a b:Rat} (h:a≤b):(cmpI a.num 0*cmpI b.num 0≤0)↔(a≤0∧0≤b):=by
 have h1:=sign_zero a
 have h2:=sign_zero b
 rcases sign_cases a with ea | ea | ea<;>rcases sign_cases b with eb | eb | eb<;>rw[ea] at h1⊢<;>rw[eb] at h2⊢<;>simp at h1 h2⊢<;>grind
theorem bnd_abs (B:List (Rat×Rat)) (a:GEx):bnd B (.abs a)=if (bnd B a).1≤0∧0≤(bnd B a).2 then (0,mx (ab (bnd B a).1) (ab (bnd B a).2)) else (mn (ab (bnd B a).1) (ab (bnd B a).2),mx (ab (bnd B a).1) (ab (bnd B a).2)):=by rw[bnd]
theorem mBounds_step {n:Nat} (hn:n≤900) {D:List Dm} (hD:dmFine D) (x:GEx)
  (ih:∀j,j<(argG x).length→∀(w:World) (v:Value) (ad:Option Addr) (cd:Nat),Glob w→DimsIn w ad cd D→ExIn w (raw ((argG x).getD j (.add []))) v→Calls Tryz.prog 36 #[v,.slice ad D.length cd] w (BndG w D ((argG x).getD j (.add []))))
  (hfi:BndFit n (boxes D) x) {w:World} {v:Value} {ad:Option Addr} {cd:Nat} (hg:Glob w) (hd:DimsIn w ad cd D) (hx:ExIn w (raw x) v):Calls Tryz.prog 36 #[v,.slice ad D.length cd] w (BndG w D x):=by
 obtain ⟨tv,aa,ac,rfl,htz,hax⟩:=hx.out
 rw[raw_args] at hax⊢
 rw[raws_len] at hax⊢
 obtain ⟨ta,tc,rfl,-⟩:=id htz
 obtain ⟨s0,hs0⟩:∃s:ByteArray,s=⟨(raw x).c.toArray⟩:=⟨_,rfl⟩
 obtain ⟨s1,hs1⟩:∃s:ByteArray,s=⟨(raw x).f.toArray⟩:=⟨_,rfl⟩
 obtain ⟨tn,htn⟩:∃x',x'=(raw x).t.length:=⟨_,rfl⟩
 obtain ⟨an,han⟩:∃x',x'=(argG x).length:=⟨_,rfl⟩
 obtain ⟨nd,hnd⟩:∃x',x'=D.length:=⟨_,rfl⟩
 obtain ⟨o,ho⟩:∃x',x'=(raw x).op:=⟨_,rfl⟩
 rw[←hs0,←hs1,←htn,←han,←ho,←hnd]
 unfold BndG
 rw[←htn] at htz
 rw[←han] at hax
 have hoG:o=opG x:=by rw[ho,raw_op]
 obtain ⟨wa,bx,bl,bh,hwa,hbx,hbl,hbh,hal,k0,k1,k2⟩:=new_three w #[.int .i64 o,.string s0,.slice ta tn tc,.string s1,.slice aa an ac] #[.bool false,.slice none 0 0,.bool false,.slice none 0 0] #[.bool false,.slice none 0 0,.bool false,.slice none 0 0] 30 47 47
 have HG:=ZH hg
 have HD:=ZH (ZN hd hD)
 have HFI:=ZH hfi
 have HTZ:=ZH htz
 have HAX:=ZH hax
 have HIH:=ZH ih
 have HAL:=ZH hal
 have HK:=ZH (ZN k0 (ZN k1 k2))
 have HNE:=ZH (show bl≠bh∧bx≠bl∧bx≠bh∧w.heap.size≤bl∧w.heap.size≤bh by omega)
 have HN:=ZH (ZN han (ZN hnd (ZN hs0 (ZN hs1 (ZN htn hoG)))))
 have HW:=ZH (ZN hwa (ZN hbx (ZN hbl hbh)))
 have hcap:an≤ac∧ac≤9223372036854775807:=by
  obtain ⟨_,_,e,h1,h2,-⟩:=hax
  simp only[Value.slice.injEq] at e
  obtain ⟨-,-,rfl⟩:=e
  rw[raws_len,←han] at h1
  exact ⟨h1,h2⟩
 obtain ⟨x0,x1,x2,x3,x4⟩:=cells5 (ZR _ wa) k0
 obtain ⟨z0,z1,z2,z3⟩:=cells4 (ZR _ wa) k1
 obtain ⟨y0,y1,y2,y3⟩:=cells4 (ZR _ wa) k2
 clear hwa hbx hbl hbh hal hg hd hD hfi htz hax ih hs0 hs1 htn hx ho han hnd hoG
 by_cases hop:o=0
 ·-- a form
  subst hop
  have HFM:=ZH (show ∃f,x=.form f from by
   have:=HN.out.2.2.2.2.2
   cases x with
   | form f=>exact ⟨f,rfl⟩
   | _=>exact absurd this (by simp[opG]))
  obtain ⟨f,rfl⟩:=HFM.out
  clear HFM
  have hfo:f.t.length=n:=by have:=HFI.out.over; rwa[Over] at this
  have hlf:=lite_form HFI.out.lite
  have hfz:=fine_texts hlf hfo
  have hlen:=texts_len f
  have htn2:tn=(formTexts f).length:=by rw[HN.out.2.2.2.2.1,raw]; simp[Ex.t,zTerms]
  have hform:FormAt wa (.agg #[.string s0,.slice ta tn tc]) (numText f.c) (formTexts f):=by
   refine ⟨.slice ta tn tc,?_,TermsZ.nat (l:=formTexts f) ?_⟩
   ·rw[HN.out.2.2.1,raw]; rfl
   ·have h:=HTZ.out.below HAL.out
    rw[raw] at h
    exact h
  have hat:∀j,j<(formTexts f).length→(formTexts f).getD j (0,[])∈formTexts f:=fun j hj=>by
   rw[List.getD_eq_getElem?_getD,List.getElem?_eq_getElem hj]
   exact List.getElem_mem hj
  have hsp:=mspread_any (HG.out.below HAL.out) (S:=60) hform (by omega) (HD.out.1.below HAL.out) HD.out.2 (liteF_texts hlf).1 (read_num_ok (by have:=(liteF_texts hlf).1; omega) (by have:=(liteF_texts hlf).1; omega)) (by omega) (fun j hj=>(hfz _ (hat j hj)).2) (by
   have h1:=HFI.out.size
   rw[Go.Proofs.YtdcaaehapdhckaaGreatDoor.bsz] at h1
   omega)
  unfold SpreadPost at hsp
  rw[←HN.out.2.1] at hsp
  have HSP:=ZH hsp
  have HFF:=ZH (ZN hfo (ZN hat hlen))
  have hkl:=HK.out.2.1
  have hkh:=HK.out.2.2
  clear hfo hlf hfz hlen htn2 hform hat hsp k0 k1 k2
  go_enter Tryz.func36,Tryz.ntmps36
  go_upto_region 1 with fail
  rw[←HW.out.1,←HW.out.2.2.2,←HW.out.2.2.1,←HW.out.2.1]
  clear HW
  go_wp2_with fail
  refine HSP.out.mono ?_
  rintro e w1 ⟨hp,hsh,hb1⟩
  have hl1:=(hb1.block bl (ZL hkl)).trans hkl
  have hh1:=(hb1.block bh (ZL hkh)).trans hkh
  have hbw:=HAL.out.trans (hb1.mono HAL.out.size)
  obtain ⟨z0,z1,z2,z3⟩:=cells4 (ZR _ w1) hl1
  obtain ⟨y0,y1,y2,y3⟩:=cells4 (ZR _ w1) hh1
  have f0:=ZF hl1 0
  have f1':=ZF hl1 1
  have f2':=ZF hl1 2
  have f3':=ZF hl1 3
  have u0:=ZF hh1 0
  have u1:=ZF hh1 1
  have u2:=ZF hh1 2
  have u3:=ZF hh1 3
  have hne:=HNE.out.1
  have hne2:=HNE.out.1.symm
  by_cases hup:Upto D.length f
  ·obtain ⟨lo,hi,rfl,hlo,hhi⟩:=hp (fun j hj=>by rw[HN.out.2.1]; exact (upto_terms.1 hup) _ (HFF.out.2.1 j hj))
   obtain ⟨p1,g1,f1,n1,p2,g2,f2,n2,rfl⟩:=rt_shape hlo
   obtain ⟨p3,g3,f3,n3,p4,g4,f4,n4,rfl⟩:=rt_shape hhi
   have hbd:(spreadTo D (numText f.c) (formTexts f) (formTexts f).length)=bnd (boxes D) (.form f):=by
    unfold spreadTo
    rw[List.take_length,read_num]
    refine spread_texts fun i hi=>hup i ?_
    unfold boxes at hi
    rwa[List.length_map] at hi
   rw[hbd] at hlo hhi
   have hsz2:60+2+(formTexts f).length*(60+6)≤bsz (.form f):=by
    rw[bsz]
    have:=Nat.mul_le_mul_right 66 HFF.out.2.2
    omega
   have HF:=ZH (two_put hl1 hh1 HNE.out.1 HNE.out.2.2.2.1 HNE.out.2.2.2.2 hbw (hlo.more hsz2) (hhi.more hsz2))
   have HU:=ZH (show UptoG D.length (.form f) by rw[UptoG]; exact hup)
   clear hl1 hh1 hb1 hbw hlo hhi hp hsh hbd hsz2 hup
   go_wp2_with fail
   exact bodyPost_ret (v:=.tuple #[.agg #[.bool p1,.slice g1 f1 n1,.bool p2,.slice g2 f2 n2],.agg #[.bool p3,.slice g3 f3 n3,.bool p4,.slice g4 f4 n4],.int .i64 0]) (by simp[results,Tryz.results36,go_sem,z0,z1,z2,z3,y0,y1,y2,y3]) rfl ⟨HF.out.below,.inl ⟨HU.out,_,_,rfl,HF.out.r1,HF.out.r2⟩⟩
  ·obtain ⟨js,hj1,hj2⟩:=upto_short hup
   obtain rfl:=hsh ⟨js,hj1,by rw[HN.out.2.1]; exact hj2⟩
   have HF:=ZH (two_put hl1 hh1 HNE.out.1 HNE.out.2.2.2.1 HNE.out.2.2.2.2 hbw (zero_rt w1 2) (zero_rt w1 2))
   have HU:=ZH (show ¬UptoG D.length (.form f) by rw[UptoG]; exact hup)
   clear hl1 hh1 hb1 hbw hp hsh hup hj1 hj2
   go_wp2_with fail
   exact bodyPost_ret (v:=.tuple #[.agg #[.bool false,.slice none 0 0,.bool false,.slice none 0 0],.agg #[.bool false,.slice none 0 0,.bool false,.slice none 0 0],.int .i64 13]) (by simp[results,Tryz.results36,go_sem,z0,z1,z2,z3,y0,y1,y2,y3]) rfl ⟨HF.out.below,.inr ⟨HU.out,rfl⟩⟩
 ·have e0:(o==0)=false:=by simpa using hop
  have HOP:=ZH hop
  clear hop k0 k1 k2 z0 z1 z2 z3 y0 y1 y2 y3
  have hn1:an≤100000:=by
   have h1:=HFI.out.size
   have h2:=asz_le (x:=x) (by rw[←HN.out.2.2.2.2.2]; exact HOP.out)
   have h3:∀l:List GEx,l.length≤bszs l:=fun l=>by
    induction l with
    | nil=>simp
    | cons a l ih=>rw[bszs,List.length_cons]; omega
   have h4:=h3 (argG x)
   unfold asz at h2
   have:=HN.out.1
   omega
  go_enter Tryz.func36,Tryz.ntmps36
  go_upto_region 1 with fail
  rw[←HW.out.1,←HW.out.2.2.2,←HW.out.2.2.1,←HW.out.2.1]
  clear HW
  go_wp2_with fail
  clear x0 x1 x2 x3 x4
  go_loopg [30] an (fun gk i wr=>∃k:Nat,k+gk=an∧i=.int .i64 k∧Hid (∃s1 a1 c1 l1 s2 a2 c2 l2 t1 b1 d1 m1 t2 b2 d2 m2,wr.heap[bl]?=some (.cells #[.bool s1,.slice a1 c1 l1,.bool s2,.slice a2 c2 l2] 47 (0,0))∧wr.heap[bh]?=some (.cells #[.bool t1,.slice b1 d1 m1,.bool t2,.slice b2 d2 m2] 47 (0,0))∧RtIn wr (.agg #[.bool s1,.slice a1 c1 l1,.bool s2,.slice a2 c2 l2]) (combTo o (boxes D) (argG x) k).1 (2+bszs ((argG x).take k))∧RtIn wr (.agg #[.bool t1,.slice b1 d1 m1,.bool t2,.slice b2 d2 m2]) (combTo o (boxes D) (argG x) k).2 (2+bszs ((argG x).take k)))∧Hid (wr.heap[bx]?=some (.cells #[.int .i64 o,.string s0,.slice ta tn tc,.string s1,.slice aa an ac] 30 (0,0))∧∀j,j<k→UptoG D.length ((argG x).getD j (.add [])))∧Hid (Below w.heap.size w wr))
  case atStart=>exact ⟨0,by omega,rfl,ZH ⟨_,_,_,_,_,_,_,_,_,_,_,_,_,_,_,_,HK.out.2.1,HK.out.2.2,zero_rt _ _,zero_rt _ _⟩,ZH ⟨HK.out.1,fun j hj=>by omega⟩,HAL⟩
  case round=>
   obtain ⟨k,hk,rfl,hacc,hkx,hbw⟩:=hrel
   obtain ⟨p1,a1,c1,l1,p2,a2,c2,l2,t1,b1,d1,m1,t2,b2,d2,m2,hkl,hkh,hrl,hrh⟩:=hacc.out
   by_cases hlt:k<an
   ·have e1:((k:Int)<(an:Int))=True:=eq_true (by omega)
    obtain ⟨_,_,he,-,-,hcx⟩:=HAX.out
    simp only[Value.slice.injEq] at he
    obtain ⟨rfl,-,rfl⟩:=he
    obtain ⟨g,og,rfl,-,hcc⟩:=hcx (by rw[raws_len,←HN.out.1]; omega)
    have hjl:k<(argG x).length:=by rw[←HN.out.1]; exact hlt
    obtain ⟨utv,ua,uc,c0,c1',c2',c3,c4,htk,hak⟩:=hcc.at (j:=k) (by rw[raws_len]; exact hjl)
    rw[raws_at hjl] at c0 c1' c3 c4 htk hak
    have hihk:=HIH.out k hjl
    have hck0:=fun (h0:k=0)=>combTo_one o (boxes D) (l:=argG x) (by omega)
    have hcks:=fun (h0:0<k)=>combTo_succ o (boxes D) hjl h0
    have hszk:=bszs_take hjl
    have hup:=fun (h:UptoG D.length x)=>arg_upto h hjl
    have hno:=hkx.out.2
    obtain ⟨y,hy⟩:∃y,y=(argG x).getD k (.add []):=⟨_,rfl⟩
    rw[←hy] at c0 c1' c3 c4 htk hak hihk hszk hup
    have hck:combTo o (boxes D) (argG x) (k+1)=if k=0 then bnd (boxes D) y else (fop o (combTo o (boxes D) (argG x) k).1 (bnd (boxes D) y).1,fop o (combTo o (boxes D) (argG x) k).2 (bnd (boxes D) y).2):=by
     by_cases h0:k=0
     ·rw[if_pos h0,hy,h0]
      exact hck0 h0
     ·rw[if_neg h0,hy]
      exact hcks (by omega)
    clear hck0 hcks
    obtain ⟨uta,utc,rfl,-⟩:=id htk
    obtain ⟨uo,huo⟩:∃q,q=(raw y).op:=⟨_,rfl⟩
    obtain ⟨us0,hus0⟩:∃s:ByteArray,s=⟨(raw y).c.toArray⟩:=⟨_,rfl⟩
    obtain ⟨us1,hus1⟩:∃s:ByteArray,s=⟨(raw y).f.toArray⟩:=⟨_,rfl⟩
    obtain ⟨utn,hutn⟩:∃q,q=(raw y).t.length:=⟨_,rfl⟩
    obtain ⟨uan,huan⟩:∃q,q=(raw y).a.length:=⟨_,rfl⟩
    have hyx:=ExIn.of htk hak
    rw[←huo,←hus0,←hus1,←hutn,←huan] at hyx
    rw[←huo] at c0
    rw[←hus0] at c1'
    rw[←hutn] at c2'
    rw[←hus1] at c3
    rw[←huan] at c4
    have x0:=ZJ hbw.out c0
    have x1:=ZJ hbw.out c1'
    have x2:=ZJ hbw.out c2'
    have x3:=ZJ hbw.out c3
    have x4:=ZJ hbw.out c4
    have HY:=ZH hyx
    have HIK:=ZH (show ∀(w:World) (v:Value) (ad:Option Addr) (cd:Nat),Glob w→DimsIn w ad cd D→ExIn w (raw y) v→Calls Tryz.prog 36 #[v,.slice ad nd cd] w (BndG w D y) from by rw[HN.out.2.1]; exact hihk)
    have HLT:=ZH (ZN hlt (ZN hck hszk))
    have HUP:=ZH (ZN hup (show UptoG D.length y→∀j,j<k+1→UptoG D.length ((argG x).getD j (.add [])) from fun h j hj=>by
     rcases Nat.lt_or_eq_of_le (Nat.le_of_lt_succ hj) with h9 | h9
     ·exact hno j h9
     ·rw[h9,←hy]; exact h))
    have HKX:=ZH hkx.out.1
    have HKK:=ZH (ZN hkl hkh)
    have HRR:=ZH (ZN hrl hrh)
    have hk0:(0:Int)≤(k:Int):=by omega
    have hk1:(k:Int)<(an:Int):=by omega
    obtain ⟨va,hva⟩:∃q,q=combTo o (boxes D) (argG x) k:=⟨_,rfl⟩
    rw[←hva] at HRR HLT
    obtain ⟨K0,hK0⟩:∃q,q=2+bszs ((argG x).take k):=⟨_,rfl⟩
    rw[←hK0] at HRR
    have HBD:=ZH (show K0+bsz y+1≤100000∧2+bszs ((argG x).take (k+1))=K0+bsz y+1∧2≤K0∧2≤bsz y by
     have h1:=HFI.out.size
     have h2:=asz_le (x:=x) (by rw[←HN.out.2.2.2.2.2]; exact HOP.out)
     have h3:=bszs_le (l:=argG x) (k:=k+1)
     have h4:=bsz_two y
     unfold asz at h2
     omega)
    clear hcx hcc c0 c1' c2' c3 c4 htk hak hihk hszk hy hck huo hus0 hus1 hutn huan hyx hlt hkx hkl hkh hrl hrh hacc hva hK0 hjl hup hno
    go_upto_region 6 with fail
    obtain ⟨w4,by',hw4,hby,hl4,ky⟩:=new_box wr #[.int .i64 uo,.string us0,.slice uta utn utc,.string us1,.slice ua uan uc] 30
    rw[←hw4,←hby]
    have HB4:=ZH (hbw.out.trans (hl4.mono hbw.out.size))
    have HKX4:=ZH ((hl4.block bx (ZL HKX.out)).trans HKX.out)
    have HKK4:=ZH (ZN ((hl4.block bl (ZL HKK.out.1)).trans HKK.out.1) ((hl4.block bh (ZL HKK.out.2)).trans HKK.out.2))
    have HRR4:=ZH (ZN (HRR.out.1.below hl4) (HRR.out.2.below hl4))
    obtain ⟨y0,y1,y2,y3,y4⟩:=cells5 (ZR _ w4) ky
    have hcall:=HIK.out _ _ _ _ (HG.out.below HB4.out) (HD.out.1.below HB4.out) (HY.out.below HB4.out)
    unfold BndG at hcall
    have HCL:=ZH hcall
    clear hw4 hby hl4 ky x0 x1 x2 x3 x4 hk0 hk1 HKX HKK HRR hbw hcall HIK
    go_wp2_with fail
    refine HCL.out.mono ?_
    rintro e w5 ⟨hb5,hc⟩
    rcases hc with ⟨hu,lo,hi,rfl,hlo,hhi⟩ | ⟨hu,rfl⟩
    ·obtain ⟨q1,g1,i1,j1,q2,g2,i2,j2,rfl⟩:=rt_shape hlo
     obtain ⟨q3,g3,i3,j3,q4,g4,i4,j4,rfl⟩:=rt_shape hhi
     have HR5:=ZH (ZN hlo hhi)
     have HB5:=ZH hb5
     have HU5:=ZH (HUP.out.2 hu)
     clear hlo hhi hb5 y0 y1 y2 y3 y4 HCL HUP hu
     go_upto_region 7 with fail
     obtain ⟨w6,bA,bB,hw6,hbA,hbB,hl6,kA,kB⟩:=new_two w5 #[.bool q1,.slice g1 i1 j1,.bool q2,.slice g2 i2 j2] #[.bool q3,.slice g3 i3 j3,.bool q4,.slice g4 i4 j4] 47 47
     rw[←hw6,←hbB,←hbA]
     have h46:=HB5.out.trans (hl6.mono HB5.out.size)
     have HB6:=ZH (HB4.out.trans (h46.mono HB4.out.size))
     have HKX6:=ZH ((h46.block bx (ZL HKX4.out)).trans HKX4.out)
     have HKK6:=ZH (ZN ((h46.block bl (ZL HKK4.out.1)).trans HKK4.out.1) ((h46.block bh (ZL HKK4.out.2)).trans HKK4.out.2))
     have HRR6:=ZH (ZN (HRR4.out.1.below h46) (HRR4.out.2.below h46))
     have HAB6:=ZH (ZN kA kB)
     have HRAB6:=ZH (ZN (HR5.out.1.below hl6) (HR5.out.2.below hl6))
     have HN6:=ZH (show bl<bA∧bl<bB∧bh<bA∧bh<bB by
      have h1:=ZL HKK4.out.1
      have h2:=ZL HKK4.out.2
      have h3:=HB5.out.size
      omega)
     have HW6:=ZH (ZR w6.heap.size w6)
     clear hw6 hbA hbB hl6 kA kB h46 HB4 HKX4 HKK4 HRR4 HR5 HB5
     go_upto_region 9 with fail
     by_cases h0:k=0
     ·subst h0
      go_upto_region 10 with fail
      have hl9:=HKK6.out.1
      have hh9:=HKK6.out.2
      obtain ⟨e90,e91,e92,e93⟩:=cells4 (ZR _ w6) hl9
      obtain ⟨d90,d91,d92,d93⟩:=cells4 (ZR _ w6) hh9
      have f0:=ZF hl9 0
      have f1':=ZF hl9 1
      have f2':=ZF hl9 2
      have f3':=ZF hl9 3
      have u0:=ZF hh9 0
      have u1:=ZF hh9 1
      have u2:=ZF hh9 2
      have u3:=ZF hh9 3
      have hne:=HNE.out.1
      have hne2:=HNE.out.1.symm
      have hst:=two_put hl9 hh9 HNE.out.1 HNE.out.2.2.2.1 HNE.out.2.2.2.2 HB6.out HRAB6.out.1 HRAB6.out.2
      have hx9:=HKX6.out
      obtain ⟨qa0,qa1,qa2,qa3⟩:=cells4 (ZR _ w6) HAB6.out.1
      obtain ⟨qb0,qb1,qb2,qb3⟩:=cells4 (ZR _ w6) HAB6.out.2
      have n1:¬bA=bl:=by have:=HN6.out; omega
      have n2:¬bB=bl:=by have:=HN6.out; omega
      have n3:¬bA=bh:=by have:=HN6.out; omega
      have n4:¬bB=bh:=by have:=HN6.out; omega
      have hkx8:=hst.but bx _ HNE.out.2.1 HNE.out.2.2.1 hx9
      have hsd:=hst.drew
      have hkx8:=((ZR _ _).drew.block bx (ZL hkx8)).trans hkx8
      have HF:=ZH (ZN hsd hkx8)
      clear hst hsd hkx8 hl9 hh9 hx9
      go_region
      go_wp2_with fail
      go_roundg (an-(0+1))
      case measure=>have:=HLT.out.1; omega
      case rel=>exact ⟨0+1,by have:=HLT.out.1; omega,by congr 1,ZH ⟨_,_,_,_,_,_,_,_,_,_,_,_,_,_,_,_,HF.out.1.kl,HF.out.1.kh,by rw[HLT.out.2.1,if_pos trivial,HBD.out.2.1]; exact HF.out.1.r1.more (by omega),by rw[HLT.out.2.1,if_pos trivial,HBD.out.2.1]; exact HF.out.1.r2.more (by omega)⟩,ZH ⟨HF.out.2,HU5.out⟩,ZH HF.out.1.below⟩
     ·have e2:((k:Int)==0)=false:=by simp; omega
      have hck:=HLT.out.2.1
      rw[if_neg h0] at hck
      have HCK:=ZH hck
      clear h0 hck
      go_upto_region 11 with fail
      refine FlowR.wp_region_sel (fun a b=>Below a.heap.size a b) (fun a=>ZR _ a) (fun _ _ _ h k=>h.trans (k.mono h.size)) [0,1,2,3,4,5,6,7,8,9,10,11] [false,false,false,false,false,false,false,false,false,false,false,false,false,false] [true,true,true,true,true,true,true,true,true,true,true,true,false,false] (fun i9 v w'=>match i9 with
       | 0=>v=.pointer (some ⟨bx,0,none⟩)
       | 1=>v=.int .i64 o
       | 2=>v=.func (.func (pickF o)) #[] #[]
       | 3=>v=.agg #[.bool p1,.slice a1 c1 l1,.bool p2,.slice a2 c2 l2]
       | 4=>v=.agg #[.bool q1,.slice g1 i1 j1,.bool q2,.slice g2 i2 j2]
       | 5=>RtIn w' v (fop o va.1 (bnd (boxes D) y).1) (K0+bsz y+1)
       | 6=>v=.pointer (some ⟨bx,0,none⟩)
       | 7=>v=.int .i64 o
       | 8=>v=.func (.func (pickF o)) #[] #[]
       | 9=>v=.agg #[.bool t1,.slice b1 d1 m1,.bool t2,.slice b2 d2 m2]
       | 10=>v=.agg #[.bool q3,.slice g3 i3 j3,.bool q4,.slice g4 i4 j4]
       | _=>RtIn w' v (fop o va.2 (bnd (boxes D) y).2) (K0+bsz y+1)) rfl rfl (by kernel_rfl) (by kernel_rfl) (by kernel_rfl) (by kernel_rfl) ?st ?_ ?_
      case st=>
       intro i9 v u1 u2 h hb
       match i9 with
       | 0 | 1 | 2 | 3 | 4 | 6 | 7 | 8 | 9 | 10=>exact h
       | 5 | 11 | _+12=>exact RtIn.below h hb
      refine zSc (zSo rfl ?s0) (zSc (zSo rfl ?s1) (zSc (zSo rfl ?s2) (zSc (zSo rfl ?s3) (zSc (zSo rfl ?s4) (zSc (zSo rfl ?s5) (zSc (zSo rfl ?s6) (zSc (zSo rfl ?s7) (zSc (zSo rfl ?s8) (zSc (zSo rfl ?s9) (zSc (zSo rfl ?s10) (zSc (zSo rfl ?s11) zSn)))))))))))
      case s0 | s6=>
       intro xs w' hb hT K9 hK9
       clear hT
       simp only[zFp,zAp,zLa,zLb,zLc,Nat.reduceAdd,zNz] at hK9⊢
       have hw:=Flow.hwD HW6.out hb
       go_simp
       exact hK9 _ _ (ZR _ _) rfl
      case s1=>
       intro xs w' hb hT K9 hK9
       have h0:(xs 0)=.pointer (some ⟨bx,0,none⟩):=hT 0 (by kernel_rfl)
       clear hT
       simp only[zFp,zAp,zLa,zLb,zLc,Nat.reduceAdd,zNz] at hK9⊢
       have hw:=Flow.hwD HW6.out hb
       have kb:=(hw.block bx (ZL HKX6.out)).trans HKX6.out
       have y0:=ZI kb 0
       clear kb
       simp at y0
       (try simp only[h0] at hK9)
       go_simp
       exact hK9 _ _ (ZR _ _) rfl
      case s2=>
       intro xs w' hb hT K9 hK9
       have h1:(xs 1)=.int .i64 o:=hT 1 (by kernel_rfl)
       clear hT
       simp only[zFp,zAp,zLa,zLb,zLc,Nat.reduceAdd,zNz] at hK9⊢
       have hw:=Flow.hwD HW6.out hb
       (try simp only[h1] at hK9)
       go_simp
       go_at_call 69
       refine (mpick_any o).mono ?_
       rintro e w3 ⟨rfl,hb3⟩
       exact hK9 _ _ hb3 rfl
      case s3 | s4 | s9 | s10=>
       intro xs w' hb hT K9 hK9
       clear hT
       simp only[zFp,zAp,zLa,zLb,zLc,Nat.reduceAdd,zNz] at hK9⊢
       have hw:=Flow.hwD HW6.out hb
       obtain ⟨y0,y1,y2,y3⟩:=cells4 hw HKK6.out.1
       obtain ⟨z0,z1,z2,z3⟩:=cells4 hw HAB6.out.1
       obtain ⟨u0,u1,u2,u3⟩:=cells4 hw HKK6.out.2
       obtain ⟨v0,v1,v2,v3⟩:=cells4 hw HAB6.out.2
       go_simp
       exact hK9 _ _ (ZR _ _) rfl
      case s5=>
       intro xs w' hb hT K9 hK9
       have h2:(xs 2)=.func (.func (pickF o)) #[] #[]:=hT 2 (by kernel_rfl)
       have h3:(xs 3)=.agg #[.bool p1,.slice a1 c1 l1,.bool p2,.slice a2 c2 l2]:=hT 3 (by kernel_rfl)
       have h4:(xs 4)=.agg #[.bool q1,.slice g1 i1 j1,.bool q2,.slice g2 i2 j2]:=hT 4 (by kernel_rfl)
       clear hT
       simp only[zFp,zAp,zLa,zLb,zLc,Nat.reduceAdd,zNz] at hK9⊢
       have hw:=Flow.hwD HW6.out hb
       (try simp only[h2] at hK9)
       (try simp only[h3] at hK9)
       (try simp only[h4] at hK9)
       have he:=enters_pick o
       go_simp
       refine (pick_any (o:=o) (HRR6.out.1.below hw) (HRAB6.out.1.below hw) HBD.out.2.2.1 HBD.out.2.2.2 (by have:=HBD.out; omega)).mono ?_
       rintro e w3 ⟨v3,rfl,hi3,hb3⟩
       exact hK9 _ _ hb3 hi3
      case s7=>
       intro xs w' hb hT K9 hK9
       have h6:(xs 6)=.pointer (some ⟨bx,0,none⟩):=hT 6 (by kernel_rfl)
       clear hT
       simp only[zFp,zAp,zLa,zLb,zLc,Nat.reduceAdd,zNz] at hK9⊢
       have hw:=Flow.hwD HW6.out hb
       have kb:=(hw.block bx (ZL HKX6.out)).trans HKX6.out
       have y0:=ZI kb 0
       clear kb
       simp at y0
       (try simp only[h6] at hK9)
       go_simp
       exact hK9 _ _ (ZR _ _) rfl
      case s8=>
       intro xs w' hb hT K9 hK9
       have h7:(xs 7)=.int .i64 o:=hT 7 (by kernel_rfl)
       clear hT
       simp only[zFp,zAp,zLa,zLb,zLc,Nat.reduceAdd,zNz] at hK9⊢
       have hw:=Flow.hwD HW6.out hb
       (try simp only[h7] at hK9)
       go_simp
       go_at_call 69
       refine (mpick_any o).mono ?_
       rintro e w3 ⟨rfl,hb3⟩
       exact hK9 _ _ hb3 rfl
      case s11=>
       intro xs w' hb hT K9 hK9
       have h8:(xs 8)=.func (.func (pickF o)) #[] #[]:=hT 8 (by kernel_rfl)
       have h9:(xs 9)=.agg #[.bool t1,.slice b1 d1 m1,.bool t2,.slice b2 d2 m2]:=hT 9 (by kernel_rfl)
       have h10:(xs 10)=.agg #[.bool q3,.slice g3 i3 j3,.bool q4,.slice g4 i4 j4]:=hT 10 (by kernel_rfl)
       clear hT
       simp only[zFp,zAp,zLa,zLb,zLc,Nat.reduceAdd,zNz] at hK9⊢
       have hw:=Flow.hwD HW6.out hb
       (try simp only[h8] at hK9)
       (try simp only[h9] at hK9)
       (try simp only[h10] at hK9)
       have he:=enters_pick o
       go_simp
       refine (pick_any (o:=o) (HRR6.out.2.below hw) (HRAB6.out.2.below hw) HBD.out.2.2.1 HBD.out.2.2.2 (by have:=HBD.out; omega)).mono ?_
       rintro e w3 ⟨v3,rfl,hi3,hb3⟩
       exact hK9 _ _ hb3 hi3
      intro xs w' hb hT
      have hw:=Flow.hwD HW6.out hb
      have h5:RtIn w' (xs 5) (fop o va.1 (bnd (boxes D) y).1) (K0+bsz y+1):=hT 5 (by rfl)
      have h11:RtIn w' (xs 11) (fop o va.2 (bnd (boxes D) y).2) (K0+bsz y+1):=hT 11 (by rfl)
      clear hT
      simp only[zFp,zAp,zLa,zLb,zLc,Nat.reduceAdd,zNz,FlowR.restL,FlowR.orM,Bool.false_or]
      obtain ⟨p5',g7,i7,j7,p6',g8,i8,j8,e5⟩:=rt_shape h5
      obtain ⟨p7',g9,i9,j9,p8',gx,ix,jx,e11⟩:=rt_shape h11
      rw[e5] at h5
      rw[e11] at h11
      simp only[e5,e11]
      clear e5 e11
      have hl9:=(hw.block bl (ZL HKK6.out.1)).trans HKK6.out.1
      have hh9:=(hw.block bh (ZL HKK6.out.2)).trans HKK6.out.2
      obtain ⟨e90,e91,e92,e93⟩:=cells4 (ZR _ w') hl9
      obtain ⟨d90,d91,d92,d93⟩:=cells4 (ZR _ w') hh9
      have f0:=ZF hl9 0
      have f1':=ZF hl9 1
      have f2':=ZF hl9 2
      have f3':=ZF hl9 3
      have u0:=ZF hh9 0
      have u1:=ZF hh9 1
      have u2:=ZF hh9 2
      have u3:=ZF hh9 3
      have hne:=HNE.out.1
      have hne2:=HNE.out.1.symm
      have hst:=two_put hl9 hh9 HNE.out.1 HNE.out.2.2.2.1 HNE.out.2.2.2.2 (HB6.out.trans (hw.mono HB6.out.size)) h5 h11
      have hx9:=(hw.block bx (ZL HKX6.out)).trans HKX6.out
      have hkx8:=hst.but bx _ HNE.out.2.1 HNE.out.2.2.1 hx9
      have hsd:=hst
      have HF:=ZH (ZN hsd hkx8)
      clear hst hsd hkx8 hl9 hh9 hx9 h5 h11 hb hw
      go_wp2_with fail
      go_roundg (an-(k+1))
      case measure=>have:=HLT.out.1; omega
      case rel=>exact ⟨k+1,by have:=HLT.out.1; omega,by congr 1,ZH ⟨_,_,_,_,_,_,_,_,_,_,_,_,_,_,_,_,HF.out.1.kl,HF.out.1.kh,by rw[HCK.out,HBD.out.2.1]; exact HF.out.1.r1.more (by omega),by rw[HCK.out,HBD.out.2.1]; exact HF.out.1.r2.more (by omega)⟩,ZH ⟨HF.out.2,HU5.out⟩,ZH HF.out.1.below⟩
    ·have HU5:=ZH (show ¬UptoG D.length x from fun h=>hu (HUP.out.1 h))
     have hl5:=(hb5.block bl (ZL HKK4.out.1)).trans HKK4.out.1
     have hh5:=(hb5.block bh (ZL HKK4.out.2)).trans HKK4.out.2
     have HB5:=ZH (HB4.out.trans (hb5.mono HB4.out.size))
     clear hu hb5 y0 y1 y2 y3 y4 HCL HUP
     go_upto_region 7 with fail
     obtain ⟨w6,bA,bB,hw6,hbA,hbB,hl6,kA,kB⟩:=new_two w5 #[.bool false,.slice none 0 0,.bool false,.slice none 0 0] #[.bool false,.slice none 0 0,.bool false,.slice none 0 0] 47 47
     rw[←hw6,←hbB,←hbA]
     have hl9:=(hl6.block bl (ZL hl5)).trans hl5
     have hh9:=(hl6.block bh (ZL hh5)).trans hh5
     have HF:=ZH (two_put hl9 hh9 HNE.out.1 HNE.out.2.2.2.1 HNE.out.2.2.2.2 (HB5.out.trans (hl6.mono HB5.out.size)) (zero_rt w6 2) (zero_rt w6 2))
     have f0:=ZF hl9 0
     have f1':=ZF hl9 1
     have f2':=ZF hl9 2
     have f3':=ZF hl9 3
     have u0:=ZF hh9 0
     have u1:=ZF hh9 1
     have u2:=ZF hh9 2
     have u3:=ZF hh9 3
     obtain ⟨z0,z1,z2,z3⟩:=cells4 (ZR _ w6) hl9
     obtain ⟨y0,y1,y2,y3⟩:=cells4 (ZR _ w6) hh9
     have hne:=HNE.out.1
     have hne2:=HNE.out.1.symm
     clear hw6 hbA hbB hl6 kA kB hl5 hh5 hl9 hh9
     go_wp2_with fail
     exact bodyPost_ret (v:=.tuple #[.agg #[.bool false,.slice none 0 0,.bool false,.slice none 0 0],.agg #[.bool false,.slice none 0 0,.bool false,.slice none 0 0],.int .i64 13]) (by simp[results,Tryz.results36,go_sem,z0,z1,z2,z3,y0,y1,y2,y3]) rfl ⟨HF.out.below,.inr ⟨HU5.out,rfl⟩⟩
   ·have e1:((k:Int)<(an:Int))=False:=eq_false (by omega)
    obtain rfl:k=an:=by omega
    have HKX9:=ZH hkx.out.1
    have HUX:=ZH (show UptoG D.length x from arg_upto_of (by rw[←HN.out.2.2.2.2.2]; exact HOP.out) (fun j hj=>hkx.out.2 j (by rw[HN.out.1]; exact hj)))
    have HKK9:=ZH (ZN hkl hkh)
    rw[HN.out.1,List.take_length] at hrl hrh
    have HRR9:=ZH (ZN hrl hrh)
    have HB9:=ZH hbw.out
    have HW9:=ZH (ZR wr.heap.size wr)
    clear hacc hkx hkl hkh hrl hrh hbw
    obtain ⟨x0,x1,x2,x3,x4⟩:=cells5 (ZR _ wr) HKX9.out
    by_cases h2:o=2
    ·subst h2
     have HFM:=ZH (show ∃q a,x=.scale q a from by
      have:=HN.out.2.2.2.2.2
      cases x with
      | scale q a=>exact ⟨q,a,rfl⟩
      | _=>exact absurd this (by simp[opG]))
     obtain ⟨q,a,rfl⟩:=HFM.out
     clear HFM
     have hqt:=bscale_text HFI.out
     have hs1:s1.data.toList=numText q:=by rw[HN.out.2.2.2.1,raw]; rfl
     have hrd:=mread_any s1 (w:=wr) (by
      have h1:s1.size=(numText q).length:=by rw[HN.out.2.2.2.1,raw]; simp[ByteArray.size,Ex.f]
      omega) (HG.out.below HB9.out) (by rw[hs1]; exact read_num_ok (by omega) (by omega))
     rw[hs1,read_num] at hrd
     have HRD:=ZH hrd
     have HQ:=ZH hqt
     have hcb:combTo 2 (boxes D) (argG (.scale q a)) (argG (.scale q a)).length=bnd (boxes D) a:=combTo_one 2 (boxes D) (l:=[a]) (by simp)
     rw[hcb,show 2+bszs (argG (.scale q a))=bsz a+3 by simp[argG,bszs]; omega] at HRR9
     have HBA:=ZH (show bsz a≤100000∧bsz (.scale q a)=bsz a+65 by
      have:=HFI.out.size
      rw[bsz] at this⊢
      omega)
     clear hqt hs1 hrd hcb
     go_wp2_with fail
     refine HRD.out.mono ?_
     rintro e w5 ⟨v5,rfl,hr5,hb5⟩
     obtain ⟨u1,i1,j1,o1,u2,i2,j2,o2,rfl⟩:=rt_shape hr5
     have HR5:=ZH (hr5.more (show (numText q).length+2≤62 by have:=HQ.out; omega))
     have HB5:=ZH hb5
     clear hr5 hb5 x0 x1 x2 x3 x4 HRD
     go_upto_region 16 with fail
     obtain ⟨w6,bk,hw6,hbk,hl6,kk⟩:=new_box w5 #[.bool u1,.slice i1 j1 o1,.bool u2,.slice i2 j2 o2] 47
     rw[←hw6,←hbk]
     have h96:=HB5.out.trans (hl6.mono HB5.out.size)
     have HK6:=ZH (ZN kk (HR5.out.below hl6))
     have HKK6:=ZH (ZN ((h96.block bl (ZL HKK9.out.1)).trans HKK9.out.1) ((h96.block bh (ZL HKK9.out.2)).trans HKK9.out.2))
     have HRR6:=ZH (ZN (HRR9.out.1.below h96) (HRR9.out.2.below h96))
     have HB6:=ZH (HB9.out.trans (h96.mono HB9.out.size))
     have HW6:=ZH (ZR w6.heap.size w6)
     clear hw6 hbk hl6 kk h96 HR5 HB5 HKK9 HRR9 HB9 HW9 HKX9
     refine FlowX.wp_region_mix (fun a b=>Below a.heap.size a b) (fun _ _ h=>h) [0,1,2,3,4,5,6,7] [true,true,true,true,true,true,true,true,false,false] (fun j9=>[6,7].contains j9) (fun i9 v w'=>match i9 with
      | 0=>v=.agg #[.bool u1,.slice i1 j1 o1,.bool u2,.slice i2 j2 o2]
      | 1=>v=.agg #[.bool p1,.slice a1 c1 l1,.bool p2,.slice a2 c2 l2]
      | 2=>RtIn w' v (q*(bnd (boxes D) a).1) (62+(bsz a+3))
      | 3=>v=.agg #[.bool u1,.slice i1 j1 o1,.bool u2,.slice i2 j2 o2]
      | 4=>v=.agg #[.bool t1,.slice b1 d1 m1,.bool t2,.slice b2 d2 m2]
      | 5=>RtIn w' v (q*(bnd (boxes D) a).2) (62+(bsz a+3))
      | 6=>True
      | _=>True) (FlowX.TwoBox w6.heap.size #[.bool false,.slice none 0 0,.bool false,.slice none 0 0] 47 6 7) rfl rfl (by kernel_rfl) (by kernel_rfl) (by kernel_rfl) (by kernel_rfl) ?st ?hX ?hX0 ?_ ?_
     case st=>
      intro i9 v u1 u2 h hb
      match i9 with
      | 0 | 1 | 3 | 4 | 6 | 7 | _+8=>exact h
      | 2 | 5=>exact RtIn.below h hb
     case hX=>exact fun L xs w L' xs' w' h he hb=>h.below (he 6 rfl) (he 7 rfl) hb
     case hX0=>exact fun xs=>FlowX.TwoBox.init _ _
     refine Flow.Steps.cons (.inl ⟨rfl,FlowX.StepS.of rfl ?s0⟩) (Flow.Steps.cons (.inl ⟨rfl,FlowX.StepS.of rfl ?s1⟩) (Flow.Steps.cons (.inl ⟨rfl,FlowX.StepS.of rfl ?s2⟩) (Flow.Steps.cons (.inl ⟨rfl,FlowX.StepS.of rfl ?s3⟩) (Flow.Steps.cons (.inl ⟨rfl,FlowX.StepS.of rfl ?s4⟩) (Flow.Steps.cons (.inl ⟨rfl,FlowX.StepS.of rfl ?s5⟩) (Flow.Steps.cons (.inr ⟨rfl,FlowX.StepX.of rfl ?s6⟩) (Flow.Steps.cons (.inr ⟨rfl,FlowX.StepX.of rfl ?s7⟩) zSn)))))))
     case s0 | s1 | s3 | s4=>
      intro L9 xs w' hb hT hX9 K9 hK9
      clear hT
      simp only[zFp,zAp,zLa,zLb,zLc,Nat.reduceAdd,zNz] at hK9⊢
      have hw:=Flow.hwD HW6.out hb
      obtain ⟨y0,y1,y2,y3⟩:=cells4 hw HK6.out.1
      obtain ⟨z0,z1,z2,z3⟩:=cells4 hw HKK6.out.1
      obtain ⟨u0,u1,u2,u3⟩:=cells4 hw HKK6.out.2
      go_simp
      exact hK9 _ _ (ZR _ _) rfl
     case s2=>
      intro L9 xs w' hb hT hX9 K9 hK9
      have h0:(xs 0)=.agg #[.bool u1,.slice i1 j1 o1,.bool u2,.slice i2 j2 o2]:=(hT 0 (by kernel_rfl)).2
      have h1:(xs 1)=.agg #[.bool p1,.slice a1 c1 l1,.bool p2,.slice a2 c2 l2]:=(hT 1 (by kernel_rfl)).2
      clear hT
      simp only[zFp,zAp,zLa,zLb,zLc,Nat.reduceAdd,zNz] at hK9⊢
      have hw:=Flow.hwD HW6.out hb
      (try simp only[h0] at hK9)
      (try simp only[h1] at hK9)
      go_simp
      go_at_call 62
      refine (ratMul_any (HK6.out.2.below hw) (HRR6.out.1.below hw) (by omega) (by omega) (by have:=HBA.out; omega)).mono ?_
      rintro e w3 ⟨v3,rfl,hi3,hb3⟩
      exact hK9 _ _ hb3 hi3
     case s5=>
      intro L9 xs w' hb hT hX9 K9 hK9
      have h3:(xs 3)=.agg #[.bool u1,.slice i1 j1 o1,.bool u2,.slice i2 j2 o2]:=(hT 3 (by kernel_rfl)).2
      have h4:(xs 4)=.agg #[.bool t1,.slice b1 d1 m1,.bool t2,.slice b2 d2 m2]:=(hT 4 (by kernel_rfl)).2
      clear hT
      simp only[zFp,zAp,zLa,zLb,zLc,Nat.reduceAdd,zNz] at hK9⊢
      have hw:=Flow.hwD HW6.out hb
      (try simp only[h3] at hK9)
      (try simp only[h4] at hK9)
      go_simp
      go_at_call 62
      refine (ratMul_any (HK6.out.2.below hw) (HRR6.out.2.below hw) (by omega) (by omega) (by have:=HBA.out; omega)).mono ?_
      rintro e w3 ⟨v3,rfl,hi3,hb3⟩
      exact hK9 _ _ hb3 hi3
     case s6=>
      intro L9 xs w' hb hT hX9 hL9 K9 hK9
      clear hT
      simp only[zFp,zAp,zLa,zLb,zLc,Nat.reduceAdd,zNz] at hK9⊢
      have hw:=Flow.hwD HW6.out hb
      go_simp
      exact hK9 _ _ (hb.alloc hb.size _) ((ZR _ _).alloc (Nat.le_refl _) _) trivial (hX9.make1 hb.size (by decide))
     case s7=>
      intro L9 xs w' hb hT hX9 hL9 K9 hK9
      clear hT
      simp only[zFp,zAp,zLa,zLb,zLc,Nat.reduceAdd,zNz] at hK9⊢
      have hw:=Flow.hwD HW6.out hb
      go_simp
      exact hK9 _ _ (hb.alloc hb.size _) ((ZR _ _).alloc (Nat.le_refl _) _) trivial (hX9.make2 hb.size (by decide))
     intro xs w' hb hT hX9
     have hw:=Flow.hwD HW6.out hb
     have h2:RtIn w' (xs 2) (q*(bnd (boxes D) a).1) (62+(bsz a+3)):=hT 2 (by rfl)
     have h5:RtIn w' (xs 5) (q*(bnd (boxes D) a).2) (62+(bsz a+3)):=hT 5 (by rfl)
     clear hT
     simp only[zFp,zAp,zLa,zLb,zLc,Nat.reduceAdd,zNz,FlowR.restL]
     obtain ⟨ba,bb,e8,e9,hne,hga,hgb,ka,kb⟩:=hX9.both (by rfl) (by rfl)
     obtain ⟨p1',g3,i3,j3,p2',g4,i4,j4,e3⟩:=rt_shape h2
     obtain ⟨p3',g5,i5,j5,p4',g6,i6,j6,e7⟩:=rt_shape h5
     rw[e3] at h2
     rw[e7] at h5
     simp only[e3,e7,e8,e9]
     clear e3 e7 e8 e9 hX9
     obtain ⟨e90,e91,e92,e93⟩:=cells4 (ZR _ w') ka
     obtain ⟨d90,d91,d92,d93⟩:=cells4 (ZR _ w') kb
     have f0:=ZF ka 0
     have f1':=ZF ka 1
     have f2':=ZF ka 2
     have f3':=ZF ka 3
     have u0:=ZF kb 0
     have u1:=ZF kb 1
     have u2:=ZF kb 2
     have u3:=ZF kb 3
     have hne2:=hne.symm
     have hga':w.heap.size≤ba:=Nat.le_trans HB6.out.size hga
     have hgb':w.heap.size≤bb:=Nat.le_trans HB6.out.size hgb
     have hst:=two_put ka kb hne hga' hgb' (HB6.out.trans (hw.mono HB6.out.size)) h2 h5
     have hl8:=(hw.block bl (ZL HKK6.out.1)).trans HKK6.out.1
     have hh8:=(hw.block bh (ZL HKK6.out.2)).trans HKK6.out.2
     have hl8:=hst.but bl _ (by have:=ZL HKK6.out.1; omega) (by have:=ZL HKK6.out.1; omega) hl8
     have hh8:=hst.but bh _ (by have:=ZL HKK6.out.2; omega) (by have:=ZL HKK6.out.2; omega) hh8
     obtain ⟨w8,hw8⟩:∃x,x=(((((((w'.setCell ⟨ba,0,none⟩ (.bool p1')).setCell ⟨ba,1,none⟩ (.slice g3 i3 j3)).setCell ⟨ba,2,none⟩ (.bool p2')).setCell ⟨ba,3,none⟩ (.slice g4 i4 j4)).setCell ⟨bb,0,none⟩ (.bool p3')).setCell ⟨bb,1,none⟩ (.slice g5 i5 j5)).setCell ⟨bb,2,none⟩ (.bool p4')).setCell ⟨bb,3,none⟩ (.slice g6 i6 j6):=⟨_,rfl⟩
     rw[←hw8] at hst hl8 hh8
     have HP8:=ZH hst
     have HKLH:=ZH (ZN hl8 hh8)
     have HW8:=ZH (ZR w8.heap.size w8)
     clear hst hl8 hh8 h2 h5 ka kb hga hgb hga' hgb' hb hw HKK6 HRR6 HK6 HB6 HW6
     go_upto_region 17 with fail
     rw[←hw8]
     clear hw8 hne hne2 f0 f1' f2' f3' u0 u1 u2 u3 e90 e91 e92 e93 d90 d91 d92 d93
     refine FlowR.wp_region_sel (fun a b=>Below a.heap.size a b) (fun a=>ZR _ a) (fun _ _ _ h k=>h.trans (k.mono h.size)) [0,1,2,3,4,5] [false,false,false,false,false,false,false,false] [true,true,true,true,true,true,false,false] (fun i9 v w'=>match i9 with
      | 0=>v=.agg #[.bool p1',.slice g3 i3 j3,.bool p2',.slice g4 i4 j4]
      | 1=>v=.agg #[.bool p3',.slice g5 i5 j5,.bool p4',.slice g6 i6 j6]
      | 2=>RtIn w' v (mn (q*(bnd (boxes D) a).1) (q*(bnd (boxes D) a).2)) (62+(bsz a+3))
      | 3=>v=.agg #[.bool p1',.slice g3 i3 j3,.bool p2',.slice g4 i4 j4]
      | 4=>v=.agg #[.bool p3',.slice g5 i5 j5,.bool p4',.slice g6 i6 j6]
      | _=>RtIn w' v (mx (q*(bnd (boxes D) a).1) (q*(bnd (boxes D) a).2)) (62+(bsz a+3))) rfl rfl (by kernel_rfl) (by kernel_rfl) (by kernel_rfl) (by kernel_rfl) ?st ?_ ?_
     case st=>
      intro i9 v u1 u2 h hb
      match i9 with
      | 0 | 1 | 3 | 4=>exact h
      | 2 | 5 | _+6=>exact RtIn.below h hb
     refine zSc (zSo rfl ?s0) (zSc (zSo rfl ?s1) (zSc (zSo rfl ?s2) (zSc (zSo rfl ?s3) (zSc (zSo rfl ?s4) (zSc (zSo rfl ?s5) zSn)))))
     case s0 | s1 | s3 | s4=>
      intro xs w' hb hT K9 hK9
      clear hT
      simp only[zFp,zAp,zLa,zLb,zLc,Nat.reduceAdd,zNz] at hK9⊢
      have hw:=Flow.hwD HW8.out hb
      obtain ⟨y0,y1,y2,y3⟩:=cells4 hw HP8.out.kl
      obtain ⟨z0,z1,z2,z3⟩:=cells4 hw HP8.out.kh
      go_simp
      exact hK9 _ _ (ZR _ _) rfl
     case s2=>
      intro xs w' hb hT K9 hK9
      have h0:(xs 0)=.agg #[.bool p1',.slice g3 i3 j3,.bool p2',.slice g4 i4 j4]:=hT 0 (by kernel_rfl)
      have h1:(xs 1)=.agg #[.bool p3',.slice g5 i5 j5,.bool p4',.slice g6 i6 j6]:=hT 1 (by kernel_rfl)
      clear hT
      simp only[zFp,zAp,zLa,zLb,zLc,Nat.reduceAdd,zNz] at hK9⊢
      have hw:=Flow.hwD HW8.out hb
      (try simp only[h0] at hK9)
      (try simp only[h1] at hK9)
      go_simp
      go_at_call 76
      refine (ratMin_any (HP8.out.r1.below hw) (HP8.out.r2.below hw) (by omega) (by have:=HBA.out; omega)).mono ?_
      rintro e w3 ⟨v3,rfl,hi3,hb3⟩
      exact hK9 _ _ hb3 hi3
     case s5=>
      intro xs w' hb hT K9 hK9
      have h3:(xs 3)=.agg #[.bool p1',.slice g3 i3 j3,.bool p2',.slice g4 i4 j4]:=hT 3 (by kernel_rfl)
      have h4:(xs 4)=.agg #[.bool p3',.slice g5 i5 j5,.bool p4',.slice g6 i6 j6]:=hT 4 (by kernel_rfl)
      clear hT
      simp only[zFp,zAp,zLa,zLb,zLc,Nat.reduceAdd,zNz] at hK9⊢
      have hw:=Flow.hwD HW8.out hb
      (try simp only[h3] at hK9)
      (try simp only[h4] at hK9)
      go_simp
      go_at_call 77
      refine (ratMax_any (HP8.out.r1.below hw) (HP8.out.r2.below hw) (by omega) (by have:=HBA.out; omega)).mono ?_
      rintro e w3 ⟨v3,rfl,hi3,hb3⟩
      exact hK9 _ _ hb3 hi3
     intro xs w' hb hT
     have hw:=Flow.hwD HW8.out hb
     have h2:RtIn w' (xs 2) (mn (q*(bnd (boxes D) a).1) (q*(bnd (boxes D) a).2)) (62+(bsz a+3)):=hT 2 (by rfl)
     have h5:RtIn w' (xs 5) (mx (q*(bnd (boxes D) a).1) (q*(bnd (boxes D) a).2)) (62+(bsz a+3)):=hT 5 (by rfl)
     clear hT
     simp only[zFp,zAp,zLa,zLb,zLc,Nat.reduceAdd,zNz,FlowR.restL,FlowR.orM,Bool.false_or]
     obtain ⟨p5',g7,i7,j7,p6',g8,i8,j8,e5⟩:=rt_shape h2
     obtain ⟨p7',g9,i9,j9,p8',gx,ix,jx,e11⟩:=rt_shape h5
     rw[e5] at h2
     rw[e11] at h5
     simp only[e5,e11]
     clear e5 e11
     have hl9:=(hw.block bl (ZL HKLH.out.1)).trans HKLH.out.1
     have hh9:=(hw.block bh (ZL HKLH.out.2)).trans HKLH.out.2
     obtain ⟨e90,e91,e92,e93⟩:=cells4 (ZR _ w') hl9
     obtain ⟨d90,d91,d92,d93⟩:=cells4 (ZR _ w') hh9
     have f0:=ZF hl9 0
     have f1':=ZF hl9 1
     have f2':=ZF hl9 2
     have f3':=ZF hl9 3
     have u0:=ZF hh9 0
     have u1:=ZF hh9 1
     have u2:=ZF hh9 2
     have u3:=ZF hh9 3
     have hne:=HNE.out.1
     have hne2:=HNE.out.1.symm
     have hst:=two_put hl9 hh9 HNE.out.1 HNE.out.2.2.2.1 HNE.out.2.2.2.2 (HP8.out.below.trans (hw.mono HP8.out.below.size)) h2 h5
     obtain ⟨wd,hwd⟩:∃x,x=((((((((w'.setCell ⟨bl,0,none⟩ (.bool p5')).setCell ⟨bl,1,none⟩ (.slice g7 i7 j7)).setCell ⟨bl,2,none⟩ (.bool p6')).setCell ⟨bl,3,none⟩ (.slice g8 i8 j8)).setCell ⟨bh,0,none⟩ (.bool p7')).setCell ⟨bh,1,none⟩ (.slice g9 i9 j9)).setCell ⟨bh,2,none⟩ (.bool p8')).setCell ⟨bh,3,none⟩ (.slice gx ix jx)):=⟨_,rfl⟩
     rw[←hwd] at hst
     have HD:=ZH hst
     clear hst hl9 hh9 hb hw h2 h5
     go_upto_region 23 with fail
     rw[←hwd]
     clear hwd f0 f1' f2' f3' u0 u1 u2 u3 e90 e91 e92 e93 d90 d91 d92 d93
     have hl9:=HD.out.kl
     have hh9:=HD.out.kh
     have f0:=ZF hl9 0
     have f1':=ZF hl9 1
     have f2':=ZF hl9 2
     have f3':=ZF hl9 3
     have u0:=ZF hh9 0
     have u1:=ZF hh9 1
     have u2:=ZF hh9 2
     have u3:=ZF hh9 3
     obtain ⟨z0,z1,z2,z3⟩:=cells4 (ZR _ wd) hl9
     obtain ⟨y0,y1,y2,y3⟩:=cells4 (ZR _ wd) hh9
     have hne:=HNE.out.1
     have hne2:=HNE.out.1.symm
     have hst:=two_put hl9 hh9 HNE.out.1 HNE.out.2.2.2.1 HNE.out.2.2.2.2 HD.out.below HD.out.r1 HD.out.r2
     have HF:=ZH hst.drew
     clear hst hl9 hh9
     go_region
     go_wp2_with fail
     exact bodyPost_ret (v:=.tuple #[.agg #[.bool p5',.slice g7 i7 j7,.bool p6',.slice g8 i8 j8],.agg #[.bool p7',.slice g9 i9 j9,.bool p8',.slice gx ix jx],.int .i64 0]) (by simp[results,Tryz.results36,go_sem,z0,z1,z2,z3,y0,y1,y2,y3]) rfl ⟨HF.out.below,.inl ⟨HUX.out,_,_,rfl,by rw[bnd,HBA.out.2,show bsz a+65=62+(bsz a+3) by omega]; exact HF.out.r1,by rw[bnd,HBA.out.2,show bsz a+65=62+(bsz a+3) by omega]; exact HF.out.r2⟩⟩
    ·have e2:(o==2)=false:=by simpa using h2
     by_cases h5:o=5
     ·subst h5
      have HFM:=ZH (show ∃a,x=.abs a from by
       have:=HN.out.2.2.2.2.2
       cases x with
       | abs a=>exact ⟨a,rfl⟩
       | _=>exact absurd this (by simp[opG]))
      obtain ⟨a,rfl⟩:=HFM.out
      clear HFM h2
      have hcb:combTo 5 (boxes D) (argG (.abs a)) (argG (.abs a)).length=bnd (boxes D) a:=combTo_one 5 (boxes D) (l:=[a]) (by simp)
      have hszb:2+bszs (argG (.abs a))≤bsz (.abs a):=asz_le (by simp[opG])
      rw[hcb] at HRR9
      have HRR6:=ZH (ZN (HRR9.out.1.more hszb) (HRR9.out.2.more hszb))
      have HORD:=ZH (show (bnd (boxes D) a).1≤(bnd (boxes D) a).2 from by
       rcases HFI.out.noabs with h9 | h9
       ·rw[NoAbs] at h9; exact h9.elim
       ·exact h9 a)
      have HBA:=ZH (show 2≤bsz (.abs a)∧bsz (.abs a)≤100000 from ⟨bsz_two _,HFI.out.size⟩)
      have HKK6:=ZH HKK9.out
      have HB6:=ZH HB9.out
      obtain ⟨ra,hra⟩:∃p,p=bnd (boxes D) a:=⟨_,rfl⟩
      rw[←hra] at HRR6 HORD
      have HRA:=ZH hra
      obtain ⟨KA,hKA⟩:∃p,p=bsz (.abs a):=⟨_,rfl⟩
      rw[←hKA] at HRR6 HBA
      have HKA:=ZH hKA
      clear hcb hszb HKK9 HRR9 HB9 HKX9 hra hKA
      go_upto_region 19 with fail
      clear x0 x1 x2 x3 x4
      refine FlowX.wp_region_mix (fun a b=>Below a.heap.size a b) (fun _ _ h=>h) [0,1,2,3,4,5] [true,true,true,true,true,true,false,false] (fun j9=>[4,5].contains j9) (fun i9 v w'=>match i9 with
       | 0=>v=.agg #[.bool p1,.slice a1 c1 l1,.bool p2,.slice a2 c2 l2]
       | 1=>RtIn w' v (ab ra.1) KA
       | 2=>v=.agg #[.bool t1,.slice b1 d1 m1,.bool t2,.slice b2 d2 m2]
       | 3=>RtIn w' v (ab ra.2) KA
       | 4=>True
       | _=>True) (FlowX.TwoBox wr.heap.size #[.bool false,.slice none 0 0,.bool false,.slice none 0 0] 47 4 5) rfl rfl (by kernel_rfl) (by kernel_rfl) (by kernel_rfl) (by kernel_rfl) ?st ?hX ?hX0 ?_ ?_
      case st=>
       intro i9 v u1 u2 h hb
       match i9 with
       | 0 | 2 | 4 | 5 | _+6=>exact h
       | 1 | 3=>exact RtIn.below h hb
      case hX=>exact fun L xs w L' xs' w' h he hb=>h.below (he 4 rfl) (he 5 rfl) hb
      case hX0=>exact fun xs=>FlowX.TwoBox.init _ _
      refine Flow.Steps.cons (.inl ⟨rfl,FlowX.StepS.of rfl ?s0⟩) (Flow.Steps.cons (.inl ⟨rfl,FlowX.StepS.of rfl ?s1⟩) (Flow.Steps.cons (.inl ⟨rfl,FlowX.StepS.of rfl ?s2⟩) (Flow.Steps.cons (.inl ⟨rfl,FlowX.StepS.of rfl ?s3⟩) (Flow.Steps.cons (.inr ⟨rfl,FlowX.StepX.of rfl ?s4⟩) (Flow.Steps.cons (.inr ⟨rfl,FlowX.StepX.of rfl ?s5⟩) zSn)))))
      case s0 | s2=>
       intro L9 xs w' hb hT hX9 K9 hK9
       clear hT
       simp only[zFp,zAp,zLa,zLb,zLc,Nat.reduceAdd,zNz] at hK9⊢
       have hw:=Flow.hwD HW9.out hb
       obtain ⟨y0,y1,y2,y3⟩:=cells4 hw HKK6.out.1
       obtain ⟨z0,z1,z2,z3⟩:=cells4 hw HKK6.out.2
       go_simp
       exact hK9 _ _ (ZR _ _) rfl
      case s1=>
       intro L9 xs w' hb hT hX9 K9 hK9
       have h0:(xs 0)=.agg #[.bool p1,.slice a1 c1 l1,.bool p2,.slice a2 c2 l2]:=(hT 0 (by kernel_rfl)).2
       clear hT
       simp only[zFp,zAp,zLa,zLb,zLc,Nat.reduceAdd,zNz] at hK9⊢
       have hw:=Flow.hwD HW9.out hb
       (try simp only[h0] at hK9)
       go_simp
       go_at_call 70
       refine (ratAbs_any (HRR6.out.1.below hw)).mono ?_
       rintro e w3 ⟨v3,rfl,hi3,hb3⟩
       exact hK9 _ _ hb3 hi3
      case s3=>
       intro L9 xs w' hb hT hX9 K9 hK9
       have h2:(xs 2)=.agg #[.bool t1,.slice b1 d1 m1,.bool t2,.slice b2 d2 m2]:=(hT 2 (by kernel_rfl)).2
       clear hT
       simp only[zFp,zAp,zLa,zLb,zLc,Nat.reduceAdd,zNz] at hK9⊢
       have hw:=Flow.hwD HW9.out hb
       (try simp only[h2] at hK9)
       go_simp
       go_at_call 70
       refine (ratAbs_any (HRR6.out.2.below hw)).mono ?_
       rintro e w3 ⟨v3,rfl,hi3,hb3⟩
       exact hK9 _ _ hb3 hi3
      case s4=>
       intro L9 xs w' hb hT hX9 hL9 K9 hK9
       clear hT
       simp only[zFp,zAp,zLa,zLb,zLc,Nat.reduceAdd,zNz] at hK9⊢
       have hw:=Flow.hwD HW9.out hb
       go_simp
       exact hK9 _ _ (hb.alloc hb.size _) ((ZR _ _).alloc (Nat.le_refl _) _) trivial (hX9.make1 hb.size (by decide))
      case s5=>
       intro L9 xs w' hb hT hX9 hL9 K9 hK9
       clear hT
       simp only[zFp,zAp,zLa,zLb,zLc,Nat.reduceAdd,zNz] at hK9⊢
       have hw:=Flow.hwD HW9.out hb
       go_simp
       exact hK9 _ _ (hb.alloc hb.size _) ((ZR _ _).alloc (Nat.le_refl _) _) trivial (hX9.make2 hb.size (by decide))
      intro xs w' hb hT hX9
      have hw:=Flow.hwD HW9.out hb
      have h1:RtIn w' (xs 1) (ab ra.1) KA:=hT 1 (by rfl)
      have h3:RtIn w' (xs 3) (ab ra.2) KA:=hT 3 (by rfl)
      clear hT
      simp only[zFp,zAp,zLa,zLb,zLc,Nat.reduceAdd,zNz,FlowR.restL]
      obtain ⟨ba,bb,e8,e9,hne,hga,hgb,ka,kb⟩:=hX9.both (by rfl) (by rfl)
      obtain ⟨p1',g3,i3,j3,p2',g4,i4,j4,e3⟩:=rt_shape h1
      obtain ⟨p3',g5,i5,j5,p4',g6,i6,j6,e7⟩:=rt_shape h3
      rw[e3] at h1
      rw[e7] at h3
      simp only[e3,e7,e8,e9]
      clear e3 e7 e8 e9 hX9
      obtain ⟨e90,e91,e92,e93⟩:=cells4 (ZR _ w') ka
      obtain ⟨d90,d91,d92,d93⟩:=cells4 (ZR _ w') kb
      have f0:=ZF ka 0
      have f1':=ZF ka 1
      have f2':=ZF ka 2
      have f3':=ZF ka 3
      have u0:=ZF kb 0
      have u1:=ZF kb 1
      have u2:=ZF kb 2
      have u3:=ZF kb 3
      have hne2:=hne.symm
      have hga':w.heap.size≤ba:=Nat.le_trans HB6.out.size hga
      have hgb':w.heap.size≤bb:=Nat.le_trans HB6.out.size hgb
      have hst:=two_put ka kb hne hga' hgb' (HB6.out.trans (hw.mono HB6.out.size)) h1 h3
      have hl8:=(hw.block bl (ZL HKK6.out.1)).trans HKK6.out.1
      have hh8:=(hw.block bh (ZL HKK6.out.2)).trans HKK6.out.2
      have hl8:=hst.but bl _ (by have:=ZL HKK6.out.1; omega) (by have:=ZL HKK6.out.1; omega) hl8
      have hh8:=hst.but bh _ (by have:=ZL HKK6.out.2; omega) (by have:=ZL HKK6.out.2; omega) hh8
      have hk9a:=ZN (((HRR6.out.1.below hw).but (nodig4 ka) (But.set4 (b:=ba) w' (.bool p1') (.slice g3 i3 j3) (.bool p2') (.slice g4 i4 j4))).but (nodig4 (((But.set4 (b:=ba) w' (.bool p1') (.slice g3 i3 j3) (.bool p2') (.slice g4 i4 j4)).block bb hne2 (ZL kb)).trans kb)) (But.set4 (b:=bb) _ (.bool p3') (.slice g5 i5 j5) (.bool p4') (.slice g6 i6 j6))) (((HRR6.out.2.below hw).but (nodig4 ka) (But.set4 (b:=ba) w' (.bool p1') (.slice g3 i3 j3) (.bool p2') (.slice g4 i4 j4))).but (nodig4 (((But.set4 (b:=ba) w' (.bool p1') (.slice g3 i3 j3) (.bool p2') (.slice g4 i4 j4)).block bb hne2 (ZL kb)).trans kb)) (But.set4 (b:=bb) _ (.bool p3') (.slice g5 i5 j5) (.bool p4') (.slice g6 i6 j6)))
      obtain ⟨w8,hw8⟩:∃x,x=(((((((w'.setCell ⟨ba,0,none⟩ (.bool p1')).setCell ⟨ba,1,none⟩ (.slice g3 i3 j3)).setCell ⟨ba,2,none⟩ (.bool p2')).setCell ⟨ba,3,none⟩ (.slice g4 i4 j4)).setCell ⟨bb,0,none⟩ (.bool p3')).setCell ⟨bb,1,none⟩ (.slice g5 i5 j5)).setCell ⟨bb,2,none⟩ (.bool p4')).setCell ⟨bb,3,none⟩ (.slice g6 i6 j6):=⟨_,rfl⟩
      rw[←hw8] at hst hl8 hh8 hk9a
      have HP8:=ZH hst
      have HKLH:=ZH (ZN hl8 hh8)
      have HR8:=ZH hk9a
      have HW8:=ZH (ZR w8.heap.size w8)
      clear hst hl8 hh8 h1 h3 ka kb hga hgb hga' hgb' hb hw hk9a HKK6 HRR6 HB6
      go_upto_region 20 with fail
      rw[←hw8]
      clear hw8 hne hne2 f0 f1' f2' f3' u0 u1 u2 u3 e90 e91 e92 e93 d90 d91 d92 d93
      obtain ⟨S1,hS1⟩:∃s,s=cmpI ra.1.num 0:=⟨_,rfl⟩
      obtain ⟨S2,hS2⟩:∃s,s=cmpI ra.2.num 0:=⟨_,rfl⟩
      obtain ⟨SP,hSPe⟩:∃s,s=S1*S2:=⟨_,rfl⟩
      have hSP:IntKind.i64.wrap (S1*S2)=SP:=by
       rw[hSPe]
       have h1:=sign_cases ra.1
       have h2:=sign_cases ra.2
       rw[←hS1] at h1
       rw[←hS2] at h2
       rcases h1 with h1 | h1 | h1<;>rcases h2 with h2 | h2 | h2<;>rw[h1,h2]<;>rfl
      have HS:=ZH (ZN hS1 (ZN hS2 hSPe))
      clear hS1 hS2 hSPe
      refine FlowR.wp_region_sel (fun a b=>Below a.heap.size a b) (fun a=>ZR _ a) (fun _ _ _ h k=>h.trans (k.mono h.size)) [0,1,2,3,4,5] [false,false,false,false,false,false] [true,true,true,true,true,true] (fun i9 v w'=>match i9 with
       | 0=>v=.agg #[.bool p1,.slice a1 c1 l1,.bool p2,.slice a2 c2 l2]
       | 1=>v=.int .i64 S1
       | 2=>v=.agg #[.bool t1,.slice b1 d1 m1,.bool t2,.slice b2 d2 m2]
       | 3=>v=.int .i64 S2
       | 4=>v=.int .i64 SP
       | _=>v=.bool (decide (SP≤0))) rfl rfl (by kernel_rfl) (by kernel_rfl) (by kernel_rfl) (by kernel_rfl) ?st ?_ ?_
      case st=>
       intro i9 v u1 u2 h hb
       match i9 with
       | 0 | 1 | 2 | 3 | 4 | 5 | _+6=>exact h
      refine zSc (zSo rfl ?s0) (zSc (zSo rfl ?s1) (zSc (zSo rfl ?s2) (zSc (zSo rfl ?s3) (zSc (zSo rfl ?s4) (zSc (zSo rfl ?s5) zSn)))))
      case s0 | s2=>
       intro xs w' hb hT K9 hK9
       clear hT
       simp only[zFp,zAp,zLa,zLb,zLc,Nat.reduceAdd,zNz] at hK9⊢
       have hw:=Flow.hwD HW8.out hb
       obtain ⟨y0,y1,y2,y3⟩:=cells4 hw HKLH.out.1
       obtain ⟨z0,z1,z2,z3⟩:=cells4 hw HKLH.out.2
       go_simp
       exact hK9 _ _ (ZR _ _) rfl
      case s1=>
       intro xs w' hb hT K9 hK9
       have h0:(xs 0)=.agg #[.bool p1,.slice a1 c1 l1,.bool p2,.slice a2 c2 l2]:=hT 0 (by kernel_rfl)
       clear hT
       simp only[zFp,zAp,zLa,zLb,zLc,Nat.reduceAdd,zNz] at hK9⊢
       have hw:=Flow.hwD HW8.out hb
       (try simp only[h0] at hK9)
       go_simp
       go_at_call 42
       refine (ratSign_any (HR8.out.1.below hw)).mono ?_
       rintro e w3 ⟨he3,hb3⟩
       rw[←HS.out.1] at he3
       subst he3
       exact hK9 _ _ hb3 rfl
      case s3=>
       intro xs w' hb hT K9 hK9
       have h2:(xs 2)=.agg #[.bool t1,.slice b1 d1 m1,.bool t2,.slice b2 d2 m2]:=hT 2 (by kernel_rfl)
       clear hT
       simp only[zFp,zAp,zLa,zLb,zLc,Nat.reduceAdd,zNz] at hK9⊢
       have hw:=Flow.hwD HW8.out hb
       (try simp only[h2] at hK9)
       go_simp
       go_at_call 42
       refine (ratSign_any (HR8.out.2.below hw)).mono ?_
       rintro e w3 ⟨he3,hb3⟩
       rw[←HS.out.2.1] at he3
       subst he3
       exact hK9 _ _ hb3 rfl
      case s4=>
       intro xs w' hb hT K9 hK9
       have h1:(xs 1)=.int .i64 S1:=hT 1 (by kernel_rfl)
       have h3:(xs 3)=.int .i64 S2:=hT 3 (by kernel_rfl)
       clear hT
       simp only[zFp,zAp,zLa,zLb,zLc,Nat.reduceAdd,zNz] at hK9⊢
       have hw:=Flow.hwD HW8.out hb
       (try simp only[h1] at hK9)
       (try simp only[h3] at hK9)
       go_simp
       exact hK9 _ _ (ZR _ _) rfl
      case s5=>
       intro xs w' hb hT K9 hK9
       have h4:(xs 4)=.int .i64 SP:=hT 4 (by kernel_rfl)
       clear hT
       simp only[zFp,zAp,zLa,zLb,zLc,Nat.reduceAdd,zNz] at hK9⊢
       have hw:=Flow.hwD HW8.out hb
       (try simp only[h4] at hK9)
       go_simp
       exact hK9 _ _ (ZR _ _) rfl
      intro xs w' hb hT
      have hw:=Flow.hwD HW8.out hb
      have h5:(xs 5)=.bool (decide (SP≤0)):=hT 5 (by rfl)
      clear hT
      simp only[zFp,zAp,zLa,zLb,zLc,Nat.reduceAdd,zNz,FlowR.restL,FlowR.orM,Bool.false_or]
      obtain ⟨w9,hw9⟩:∃x,x=w':=⟨_,rfl⟩
      have HP9:=ZH (show RtIn w9 (.agg #[.bool p1',.slice g3 i3 j3,.bool p2',.slice g4 i4 j4]) (ab ra.1) KA∧RtIn w9 (.agg #[.bool p3',.slice g5 i5 j5,.bool p4',.slice g6 i6 j6]) (ab ra.2) KA∧w9.heap[ba]?=some (.cells #[.bool p1',.slice g3 i3 j3,.bool p2',.slice g4 i4 j4] 47 (0,0))∧w9.heap[bb]?=some (.cells #[.bool p3',.slice g5 i5 j5,.bool p4',.slice g6 i6 j6] 47 (0,0))∧w9.heap[bl]?=some (.cells #[.bool p1,.slice a1 c1 l1,.bool p2,.slice a2 c2 l2] 47 (0,0))∧w9.heap[bh]?=some (.cells #[.bool t1,.slice b1 d1 m1,.bool t2,.slice b2 d2 m2] 47 (0,0))∧Below w.heap.size w w9 from by
       rw[hw9]
       exact ⟨HP8.out.r1.below hw,HP8.out.r2.below hw,(hw.block ba (ZL HP8.out.kl)).trans HP8.out.kl,(hw.block bb (ZL HP8.out.kh)).trans HP8.out.kh,(hw.block bl (ZL HKLH.out.1)).trans HKLH.out.1,(hw.block bh (ZL HKLH.out.2)).trans HKLH.out.2,HP8.out.below.trans (hw.mono HP8.out.below.size)⟩)
      have HW9z:=ZH (ZR w9.heap.size w9)
      have hcr:=signs_across HORD.out
      rw[←HS.out.1,←HS.out.2.1,←HS.out.2.2] at hcr
      rw[←hw9]
      simp only[h5]
      clear hw9 h5 hw hb hSP HS HP8 HKLH HR8 HW8 HW9
      obtain ⟨tz,htz⟩:∃b,b=decide (SP≤0):=⟨_,rfl⟩
      rw[←htz]
      by_cases hz:SP≤0
      ·obtain rfl:tz=true:=by rw[htz]; exact ZT hz
       have HCR:=ZH (hcr.1 hz)
       clear hcr htz
       go_upto_region 21 with fail
       clear hz
       refine FlowR.wp_region_sel (fun a b=>Below a.heap.size a b) (fun a=>ZR _ a) (fun _ _ _ h k=>h.trans (k.mono h.size)) [0,1,2,3] [false,false,false,false,false,false] [true,true,true,true,false,false] (fun i9 v w'=>match i9 with
        | 0=>RtIn w' v 0 KA
        | 1=>v=.agg #[.bool p1',.slice g3 i3 j3,.bool p2',.slice g4 i4 j4]
        | 2=>v=.agg #[.bool p3',.slice g5 i5 j5,.bool p4',.slice g6 i6 j6]
        | _=>RtIn w' v (mx (ab ra.1) (ab ra.2)) KA) rfl rfl (by kernel_rfl) (by kernel_rfl) (by kernel_rfl) (by kernel_rfl) ?st ?_ ?_
       case st=>
        intro i9 v u1 u2 h hb
        match i9 with
        | 0 | 3 | _+4=>exact RtIn.below h hb
        | 1 | 2=>exact h
       refine zSc (zSo rfl ?s0) (zSc (zSo rfl ?s1) (zSc (zSo rfl ?s2) (zSc (zSo rfl ?s3) zSn)))
       case s0=>
        intro xs w' hb hT K9 hK9
        clear hT
        simp only[zFp,zAp,zLa,zLb,zLc,Nat.reduceAdd,zNz] at hK9⊢
        have hw:=Flow.hwD HW9z.out hb
        go_simp
        go_at_call 35
        refine (ratFrom_any (w:=w') (n:=0) (by omega) (by omega)).mono ?_
        rintro e w3 ⟨v3,rfl,hi3,hb3⟩
        exact hK9 _ _ hb3 (by have h9:=hi3.more (show 2≤KA from HBA.out.1); simpa using h9)
       case s1 | s2=>
        intro xs w' hb hT K9 hK9
        clear hT
        simp only[zFp,zAp,zLa,zLb,zLc,Nat.reduceAdd,zNz] at hK9⊢
        have hw:=Flow.hwD HW9z.out hb
        obtain ⟨y0,y1,y2,y3⟩:=cells4 hw HP9.out.2.2.1
        obtain ⟨z0,z1,z2,z3⟩:=cells4 hw HP9.out.2.2.2.1
        go_simp
        exact hK9 _ _ (ZR _ _) rfl
       case s3=>
        intro xs w' hb hT K9 hK9
        have h1:(xs 1)=.agg #[.bool p1',.slice g3 i3 j3,.bool p2',.slice g4 i4 j4]:=hT 1 (by kernel_rfl)
        have h2:(xs 2)=.agg #[.bool p3',.slice g5 i5 j5,.bool p4',.slice g6 i6 j6]:=hT 2 (by kernel_rfl)
        clear hT
        simp only[zFp,zAp,zLa,zLb,zLc,Nat.reduceAdd,zNz] at hK9⊢
        have hw:=Flow.hwD HW9z.out hb
        (try simp only[h1] at hK9)
        (try simp only[h2] at hK9)
        go_simp
        go_at_call 77
        refine (ratMax_any (HP9.out.1.below hw) (HP9.out.2.1.below hw) (by have:=HBA.out; omega) (by have:=HBA.out; omega)).mono ?_
        rintro e w3 ⟨v3,rfl,hi3,hb3⟩
        exact hK9 _ _ hb3 hi3
       intro xs w' hb hT
       have hw:=Flow.hwD HW9z.out hb
       have h0:RtIn w' (xs 0) 0 KA:=hT 0 (by rfl)
       have h3:RtIn w' (xs 3) (mx (ab ra.1) (ab ra.2)) KA:=hT 3 (by rfl)
       clear hT
       simp only[zFp,zAp,zLa,zLb,zLc,Nat.reduceAdd,zNz,FlowR.restL,FlowR.orM,Bool.false_or]
       obtain ⟨p5',g7,i7,j7,p6',g8,i8,j8,e5⟩:=rt_shape h0
       obtain ⟨p7',g9,i9,j9,p8',gx,ix,jx,e11⟩:=rt_shape h3
       rw[e5] at h0
       rw[e11] at h3
       simp only[e5,e11]
       clear e5 e11
       have hl9:=(hw.block bl (ZL HP9.out.2.2.2.2.1)).trans HP9.out.2.2.2.2.1
       have hh9:=(hw.block bh (ZL HP9.out.2.2.2.2.2.1)).trans HP9.out.2.2.2.2.2.1
       obtain ⟨e90,e91,e92,e93⟩:=cells4 (ZR _ w') hl9
       obtain ⟨d90,d91,d92,d93⟩:=cells4 (ZR _ w') hh9
       have f0:=ZF hl9 0
       have f1':=ZF hl9 1
       have f2':=ZF hl9 2
       have f3':=ZF hl9 3
       have u0:=ZF hh9 0
       have u1:=ZF hh9 1
       have u2:=ZF hh9 2
       have u3:=ZF hh9 3
       have hne:=HNE.out.1
       have hne2:=HNE.out.1.symm
       have hst:=two_put hl9 hh9 HNE.out.1 HNE.out.2.2.2.1 HNE.out.2.2.2.2 (HP9.out.2.2.2.2.2.2.trans (hw.mono HP9.out.2.2.2.2.2.2.size)) h0 h3
       obtain ⟨wd,hwd⟩:∃x,x=((((((((w'.setCell ⟨bl,0,none⟩ (.bool p5')).setCell ⟨bl,1,none⟩ (.slice g7 i7 j7)).setCell ⟨bl,2,none⟩ (.bool p6')).setCell ⟨bl,3,none⟩ (.slice g8 i8 j8)).setCell ⟨bh,0,none⟩ (.bool p7')).setCell ⟨bh,1,none⟩ (.slice g9 i9 j9)).setCell ⟨bh,2,none⟩ (.bool p8')).setCell ⟨bh,3,none⟩ (.slice gx ix jx)):=⟨_,rfl⟩
       rw[←hwd] at hst
       have HD:=ZH hst
       clear hst hl9 hh9 hb hw h0 h3
       go_upto_region 23 with fail
       rw[←hwd]
       clear hwd f0 f1' f2' f3' u0 u1 u2 u3 e90 e91 e92 e93 d90 d91 d92 d93
       have hl9:=HD.out.kl
       have hh9:=HD.out.kh
       have f0:=ZF hl9 0
       have f1':=ZF hl9 1
       have f2':=ZF hl9 2
       have f3':=ZF hl9 3
       have u0:=ZF hh9 0
       have u1:=ZF hh9 1
       have u2:=ZF hh9 2
       have u3:=ZF hh9 3
       obtain ⟨z0,z1,z2,z3⟩:=cells4 (ZR _ wd) hl9
       obtain ⟨y0,y1,y2,y3⟩:=cells4 (ZR _ wd) hh9
       have hne:=HNE.out.1
       have hne2:=HNE.out.1.symm
       have hst:=two_put hl9 hh9 HNE.out.1 HNE.out.2.2.2.1 HNE.out.2.2.2.2 HD.out.below HD.out.r1 HD.out.r2
       have HF:=ZH hst.drew
       clear hst hl9 hh9
       go_region
       go_wp2_with fail
       exact bodyPost_ret (v:=.tuple #[.agg #[.bool p5',.slice g7 i7 j7,.bool p6',.slice g8 i8 j8],.agg #[.bool p7',.slice g9 i9 j9,.bool p8',.slice gx ix jx],.int .i64 0]) (by simp[results,Tryz.results36,go_sem,z0,z1,z2,z3,y0,y1,y2,y3]) rfl ⟨HF.out.below,.inl ⟨HUX.out,_,_,rfl,by rw[bnd_abs,←HRA.out,if_pos HCR.out,←HKA.out]; exact HF.out.r1,by rw[bnd_abs,←HRA.out,if_pos HCR.out,←HKA.out]; exact HF.out.r2⟩⟩
      ·obtain rfl:tz=false:=by rw[htz]; exact ZU hz
       have HCR:=ZH (show ¬(ra.1≤0∧0≤ra.2) from fun h=>hz (hcr.2 h))
       clear hcr htz
       go_upto_region 22 with fail
       clear hz
       refine FlowR.wp_region_sel (fun a b=>Below a.heap.size a b) (fun a=>ZR _ a) (fun _ _ _ h k=>h.trans (k.mono h.size)) [0,1,2,3,4,5] [false,false,false,false,false,false,false,false] [true,true,true,true,true,true,false,false] (fun i9 v w'=>match i9 with
        | 0=>v=.agg #[.bool p1',.slice g3 i3 j3,.bool p2',.slice g4 i4 j4]
        | 1=>v=.agg #[.bool p3',.slice g5 i5 j5,.bool p4',.slice g6 i6 j6]
        | 2=>RtIn w' v (mn (ab ra.1) (ab ra.2)) KA
        | 3=>v=.agg #[.bool p1',.slice g3 i3 j3,.bool p2',.slice g4 i4 j4]
        | 4=>v=.agg #[.bool p3',.slice g5 i5 j5,.bool p4',.slice g6 i6 j6]
        | _=>RtIn w' v (mx (ab ra.1) (ab ra.2)) KA) rfl rfl (by kernel_rfl) (by kernel_rfl) (by kernel_rfl) (by kernel_rfl) ?st ?_ ?_
       case st=>
        intro i9 v u1 u2 h hb
        match i9 with
        | 0 | 1 | 3 | 4=>exact h
        | 2 | 5 | _+6=>exact RtIn.below h hb
       refine zSc (zSo rfl ?s0) (zSc (zSo rfl ?s1) (zSc (zSo rfl ?s2) (zSc (zSo rfl ?s3) (zSc (zSo rfl ?s4) (zSc (zSo rfl ?s5) zSn)))))
       case s0 | s1 | s3 | s4=>
        intro xs w' hb hT K9 hK9
        clear hT
        simp only[zFp,zAp,zLa,zLb,zLc,Nat.reduceAdd,zNz] at hK9⊢
        have hw:=Flow.hwD HW9z.out hb
        obtain ⟨y0,y1,y2,y3⟩:=cells4 hw HP9.out.2.2.1
        obtain ⟨z0,z1,z2,z3⟩:=cells4 hw HP9.out.2.2.2.1
        go_simp
        exact hK9 _ _ (ZR _ _) rfl
       case s2=>
        intro xs w' hb hT K9 hK9
        have h0:(xs 0)=.agg #[.bool p1',.slice g3 i3 j3,.bool p2',.slice g4 i4 j4]:=hT 0 (by kernel_rfl)
        have h1:(xs 1)=.agg #[.bool p3',.slice g5 i5 j5,.bool p4',.slice g6 i6 j6]:=hT 1 (by kernel_rfl)
        clear hT
        simp only[zFp,zAp,zLa,zLb,zLc,Nat.reduceAdd,zNz] at hK9⊢
        have hw:=Flow.hwD HW9z.out hb
        (try simp only[h0] at hK9)
        (try simp only[h1] at hK9)
        go_simp
        go_at_call 76
        refine (ratMin_any (HP9.out.1.below hw) (HP9.out.2.1.below hw) (by have:=HBA.out; omega) (by have:=HBA.out; omega)).mono ?_
        rintro e w3 ⟨v3,rfl,hi3,hb3⟩
        exact hK9 _ _ hb3 hi3
       case s5=>
        intro xs w' hb hT K9 hK9
        have h3:(xs 3)=.agg #[.bool p1',.slice g3 i3 j3,.bool p2',.slice g4 i4 j4]:=hT 3 (by kernel_rfl)
        have h4:(xs 4)=.agg #[.bool p3',.slice g5 i5 j5,.bool p4',.slice g6 i6 j6]:=hT 4 (by kernel_rfl)
        clear hT
        simp only[zFp,zAp,zLa,zLb,zLc,Nat.reduceAdd,zNz] at hK9⊢
        have hw:=Flow.hwD HW9z.out hb
        (try simp only[h3] at hK9)
        (try simp only[h4] at hK9)
        go_simp
        go_at_call 77
        refine (ratMax_any (HP9.out.1.below hw) (HP9.out.2.1.below hw) (by have:=HBA.out; omega) (by have:=HBA.out; omega)).mono ?_
        rintro e w3 ⟨v3,rfl,hi3,hb3⟩
        exact hK9 _ _ hb3 hi3
       intro xs w' hb hT
       have hw:=Flow.hwD HW9z.out hb
       have h2:RtIn w' (xs 2) (mn (ab ra.1) (ab ra.2)) KA:=hT 2 (by rfl)
       have h5:RtIn w' (xs 5) (mx (ab ra.1) (ab ra.2)) KA:=hT 5 (by rfl)
       clear hT
       simp only[zFp,zAp,zLa,zLb,zLc,Nat.reduceAdd,zNz,FlowR.restL,FlowR.orM,Bool.false_or]
       obtain ⟨p5',g7,i7,j7,p6',g8,i8,j8,e5⟩:=rt_shape h2
       obtain ⟨p7',g9,i9,j9,p8',gx,ix,jx,e11⟩:=rt_shape h5
       rw[e5] at h2
       rw[e11] at h5
       simp only[e5,e11]
       clear e5 e11
       have hl9:=(hw.block bl (ZL HP9.out.2.2.2.2.1)).trans HP9.out.2.2.2.2.1
       have hh9:=(hw.block bh (ZL HP9.out.2.2.2.2.2.1)).trans HP9.out.2.2.2.2.2.1
       obtain ⟨e90,e91,e92,e93⟩:=cells4 (ZR _ w') hl9
       obtain ⟨d90,d91,d92,d93⟩:=cells4 (ZR _ w') hh9
       have f0:=ZF hl9 0
       have f1':=ZF hl9 1
       have f2':=ZF hl9 2
       have f3':=ZF hl9 3
       have u0:=ZF hh9 0
       have u1:=ZF hh9 1
       have u2:=ZF hh9 2
       have u3:=ZF hh9 3
       have hne:=HNE.out.1
       have hne2:=HNE.out.1.symm
       have hst:=two_put hl9 hh9 HNE.out.1 HNE.out.2.2.2.1 HNE.out.2.2.2.2 (HP9.out.2.2.2.2.2.2.trans (hw.mono HP9.out.2.2.2.2.2.2.size)) h2 h5
       obtain ⟨wd,hwd⟩:∃x,x=((((((((w'.setCell ⟨bl,0,none⟩ (.bool p5')).setCell ⟨bl,1,none⟩ (.slice g7 i7 j7)).setCell ⟨bl,2,none⟩ (.bool p6')).setCell ⟨bl,3,none⟩ (.slice g8 i8 j8)).setCell ⟨bh,0,none⟩ (.bool p7')).setCell ⟨bh,1,none⟩ (.slice g9 i9 j9)).setCell ⟨bh,2,none⟩ (.bool p8')).setCell ⟨bh,3,none⟩ (.slice gx ix jx)):=⟨_,rfl⟩
       rw[←hwd] at hst
       have HD:=ZH hst
       clear hst hl9 hh9 hb hw h2 h5
       go_upto_region 23 with fail
       rw[←hwd]
       clear hwd f0 f1' f2' f3' u0 u1 u2 u3 e90 e91 e92 e93 d90 d91 d92 d93
       have hl9:=HD.out.kl
       have hh9:=HD.out.kh
       have f0:=ZF hl9 0
       have f1':=ZF hl9 1
       have f2':=ZF hl9 2
       have f3':=ZF hl9 3
       have u0:=ZF hh9 0
       have u1:=ZF hh9 1
       have u2:=ZF hh9 2
       have u3:=ZF hh9 3
       obtain ⟨z0,z1,z2,z3⟩:=cells4 (ZR _ wd) hl9
       obtain ⟨y0,y1,y2,y3⟩:=cells4 (ZR _ wd) hh9
       have hne:=HNE.out.1
       have hne2:=HNE.out.1.symm
       have hst:=two_put hl9 hh9 HNE.out.1 HNE.out.2.2.2.1 HNE.out.2.2.2.2 HD.out.below HD.out.r1 HD.out.r2
       have HF:=ZH hst.drew
       clear hst hl9 hh9
       go_region
       go_wp2_with fail
       exact bodyPost_ret (v:=.tuple #[.agg #[.bool p5',.slice g7 i7 j7,.bool p6',.slice g8 i8 j8],.agg #[.bool p7',.slice g9 i9 j9,.bool p8',.slice gx ix jx],.int .i64 0]) (by simp[results,Tryz.results36,go_sem,z0,z1,z2,z3,y0,y1,y2,y3]) rfl ⟨HF.out.below,.inl ⟨HUX.out,_,_,rfl,by rw[bnd_abs,←HRA.out,if_neg HCR.out,←HKA.out]; exact HF.out.r1,by rw[bnd_abs,←HRA.out,if_neg HCR.out,←HKA.out]; exact HF.out.r2⟩⟩
     ·have e5:(o==5)=false:=by simpa using h5
      have hcb:combTo o (boxes D) (argG x) (argG x).length=bnd (boxes D) x:=by
       have h3:=HN.out.2.2.2.2.2
       have h0:=HOP.out
       cases x with
       | form f=>exact absurd h3 h0
       | scale q a=>exact absurd h3 h2
       | abs a=>exact absurd h3 h5
       | add l=>rw[h3]; exact comb_add _ _
       | min l=>rw[h3]; exact comb_min _ _
       | max l=>rw[h3]; exact comb_max _ _
      have hsz:2+bszs (argG x)≤bsz x:=asz_le (by rw[←HN.out.2.2.2.2.2]; exact HOP.out)
      rw[hcb] at HRR9
      have HRRF:=ZH (ZN (HRR9.out.1.more hsz) (HRR9.out.2.more hsz))
      clear h2 h5 hcb hsz HW9 HKX9 HRR9
      go_upto_region 23 with fail
      clear x0 x1 x2 x3 x4
      have hl9:=HKK9.out.1
      have hh9:=HKK9.out.2
      have f0:=ZF hl9 0
      have f1':=ZF hl9 1
      have f2':=ZF hl9 2
      have f3':=ZF hl9 3
      have u0:=ZF hh9 0
      have u1:=ZF hh9 1
      have u2:=ZF hh9 2
      have u3:=ZF hh9 3
      obtain ⟨z0,z1,z2,z3⟩:=cells4 (ZR _ wr) hl9
      obtain ⟨y0,y1,y2,y3⟩:=cells4 (ZR _ wr) hh9
      have hne:=HNE.out.1
      have hne2:=HNE.out.1.symm
      have hst:=two_put hl9 hh9 HNE.out.1 HNE.out.2.2.2.1 HNE.out.2.2.2.2 HB9.out HRRF.out.1 HRRF.out.2
      have HF:=ZH hst.drew
      clear hst hl9 hh9
      go_region
      go_wp2_with fail
      exact bodyPost_ret (v:=.tuple #[.agg #[.bool p1,.slice a1 c1 l1,.bool p2,.slice a2 c2 l2],.agg #[.bool t1,.slice b1 d1 m1,.bool t2,.slice b2 d2 m2],.int .i64 0]) (by simp[results,Tryz.results36,go_sem,z0,z1,z2,z3,y0,y1,y2,y3]) rfl ⟨HF.out.below,.inl ⟨HUX.out,_,_,rfl,HF.out.r1,HF.out.r2⟩⟩
theorem mBounds_all {n:Nat} (hn:n≤900) {D:List Dm} (hD:dmFine D):∀(m:Nat) (x:GEx),dep x≤m→BndFit n (boxes D) x→∀(w:World) (v:Value) (ad:Option Addr) (cd:Nat),Glob w→DimsIn w ad cd D→ExIn w (raw x) v→Calls Tryz.prog 36 #[v,.slice ad D.length cd] w (BndG w D x)
 | 0,x,hm,_=>by cases x<;>rw[dep] at hm<;>omega
 | m+1,x,hm,hf=>fun w v ad cd hg hd hx=>mBounds_step hn hD x (fun j hj=>mBounds_all hn hD m _ (by have:=arg_dep hj; omega) (hf.arg hj)) hf hg hd hx
theorem mBounds_any {n:Nat} (hn:n≤900) {D:List Dm} (hD:dmFine D) (m:Nat) (x:GEx) (hm:dep x≤m) (hf:BndFine n D.length x) (w:World) (v:Value) (ad:Option Addr) (cd:Nat) (hg:Glob w) (hd:DimsIn w ad cd D) (hx:ExIn w (raw x) v):Calls Tryz.prog 36 #[v,.slice ad D.length cd] w (BndPost w (boxes D) x):=by
 refine (mBounds_all hn hD m x hm ⟨hf.over,hf.lite,.inl hf.noabs,hf.size⟩ w v ad cd hg hd hx).mono ?_
 rintro e w' ⟨hb,⟨-,lo,hi,he,h1,h2⟩ | ⟨hu,-⟩⟩
 ·exact ⟨lo,hi,he,h1,h2,hb⟩
 ·exact absurd hf.upto hu
end Go.Proofs.YtdcaaehapdhckaaGreatDoor

