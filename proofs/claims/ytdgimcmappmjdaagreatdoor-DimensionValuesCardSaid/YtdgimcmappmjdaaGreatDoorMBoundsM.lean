/- dimension.pick, Bounds. -/
import Derived.Test.YtdgimcmappmjdaaGreatDoorMSpreadM
import Derived.Test.YtdgimcmappmjdaaGreatDoorK1
import Derived.RegionTactic
import Derived.ChangeAlike
set_option linter.unusedSimpArgs false
set_option linter.unusedVariables false
set_option maxRecDepth 100000
namespace Go.Proofs.YtdgimcmappmjdaaGreatDoor
open List renaming setIfInBounds_toArray → zLa, set_cons_zero → zLb, set_cons_succ → zLc
open FlowR renaming putSel → zFp
open Act renaming put → zAp
open Nat renaming zero_add → zNz
open Flow.Steps renaming cons → zSc, nil → zSn
open FlowR.Step renaming of → zSo
open Go.RowKit Go.Num Go.Flow
open Go.Gx (LF GEx mn mx bnd bnds dep Over)
set_option maxHeartbeats 8000000
set_option linter.unusedVariables false

def pickF (o:Int):Nat:=if o=3 then 75 else if o=4 then 76 else 79
theorem enters_pick (o:Int) (args:Array Value) (w:World):(callFunc (pickF o) args).run Tryz.prog w=.ok (.enter (pickF o) args) w:=by
 unfold pickF
 split
 ·exact enters_of Tryz.func75 (by kernel_rfl) rfl args w
 ·split
  ·exact enters_of Tryz.func76 (by kernel_rfl) rfl args w
  ·exact enters_of Tryz.func79 (by kernel_rfl) rfl args w
theorem pick_any {w:World} {o:Int} {va vb:Value} {r s:Rat} {k m:Nat} (ha:RtIn w va r k) (hb:RtIn w vb s m) (hk:2≤k) (hm:2≤m) (hkm:k+m+1≤400000):Calls Tryz.prog (pickF o) #[va,vb] w fun e w'=>∃v,e=.returned v∧RtIn w' v (fop o r s) (k+m+1)∧Below w.heap.size w w':=by
 unfold pickF fop
 by_cases h3:o=3
 ·rw[if_pos h3,if_pos h3]
  exact (ratMin_any (ha.more (show k≤k+m+1 by omega)) (hb.more (show m≤k+m+1 by omega)) (by omega) (by omega))
 ·rw[if_neg h3,if_neg h3]
  by_cases h4:o=4
  ·rw[if_pos h4,if_pos h4]
   exact (ratMax_any (ha.more (show k≤k+m+1 by omega)) (hb.more (show m≤k+m+1 by omega)) (by omega) (by omega))
  ·rw[if_neg h4,if_neg h4]
   exact ratAdd_any ha hb hk hm (by omega)
theorem mpick_any {w:World} (o:Int):Calls Tryz.prog 72 #[.int .i64 o] w fun e w'=>e=.returned (.func (.func (pickF o)) #[] #[])∧Below w.heap.size w w':=by
 by_cases h3:o=3
 ·subst h3
  go_enter Tryz.func72,Tryz.ntmps72
  go_wp2_with fail
  go_ret
  exact ⟨rfl,ZR _ _⟩
 ·have e3:(o==3)=false:=by simpa using h3
  by_cases h4:o=4
  ·subst h4
   go_enter Tryz.func72,Tryz.ntmps72
   go_wp2_with fail
   go_ret
   exact ⟨rfl,ZR _ _⟩
  ·have e4:(o==4)=false:=by simpa using h4
   have HP:=ZH (show pickF o = 79 by unfold pickF; rw[if_neg h3,if_neg h4])
   clear h3 h4
   go_enter Tryz.func72,Tryz.ntmps72
   go_wp2_with fail
   go_ret
   exact ⟨by rw[HP.out]; rfl,ZR _ _⟩
mutual
def NoAbs : GEx→Prop
 | .form _=>True
 | .scale _ a=>NoAbs a
 | .add l=>NoAbss l
 | .min l=>NoAbss l
 | .max l=>NoAbss l
 | .abs _=>False
def NoAbss : List GEx→Prop
 | []=>True
 | a::l=>NoAbs a∧NoAbss l
end
theorem noabs_at : ∀{l:List GEx} {j:Nat},NoAbss l→j<l.length→NoAbs (l.getD j (.add []))
 | [],j,_,h=>by simp at h
 | a::l,0,h,_=>by rw[NoAbss] at h; exact h.1
 | a::l,j+1,h,hj=>by rw[NoAbss] at h; exact noabs_at (l:=l) h.2 (by simpa using hj)
theorem arg_noabs {x:GEx} {j:Nat} (h:NoAbs x) (hj:j<(argG x).length):NoAbs ((argG x).getD j (.add [])):=by
 cases x with
 | form f=>simp[argG] at hj
 | scale k a=>
   obtain rfl:j=0:=by simpa[argG] using hj
   rw[NoAbs] at h; exact h
 | add l=>rw[NoAbs] at h; exact noabs_at h hj
 | min l=>rw[NoAbs] at h; exact noabs_at h hj
 | max l=>rw[NoAbs] at h; exact noabs_at h hj
 | abs a=>rw[NoAbs] at h; exact h.elim
def BndPost (w:World) (B:List (Rat×Rat)) (x:GEx) (e:Ending) (w':World):Prop:=∃lo hi,e=.returned (.tuple #[lo,hi,.int .i64 0])∧RtIn w' lo (bnd B x).1 (bsz x)∧RtIn w' hi (bnd B x).2 (bsz x)∧Below w.heap.size w w'
structure BndFine (n m:Nat) (x:GEx):Prop where
 over:Over n x
 lite:Lite x
 upto:UptoG m x
 noabs:NoAbs x
 size:bsz x≤100000
theorem BndFine.arg {n m:Nat} {x:GEx} (h:BndFine n m x) {j:Nat} (hj:j<(argG x).length):BndFine n m ((argG x).getD j (.add [])):=by
 refine ⟨arg_over h.over hj,arg_lite h.lite hj,arg_upto h.upto hj,arg_noabs h.noabs hj,?_⟩
 have h1:=asz_le (x:=x) (by cases x<;>simp[opG,argG] at hj⊢)
 have h2:=bszs_take hj
 have h3:=bszs_le (l:=argG x) (k:=j+1)
 have h4:=h.size
 unfold asz at h1
 omega
theorem mBounds_step {n:Nat} (hn:n≤900) {D:List Dm} (hD:∀j,j<D.length→(-1000000000≤(D.getD j Dm.none).nominal∧(D.getD j Dm.none).nominal≤1000000000)∧(-1000000000≤(D.getD j Dm.none).lower∧(D.getD j Dm.none).lower≤1000000000)∧(-1000000000≤(D.getD j Dm.none).upper∧(D.getD j Dm.none).upper≤1000000000)) (x:GEx)
  (ih:∀j,j<(argG x).length→∀(w:World) (v:Value) (ad:Option Addr) (cd:Nat),Glob w→DimsIn w ad cd D→ExIn w (raw ((argG x).getD j (.add []))) v→Calls Tryz.prog 26 #[v,.slice ad D.length cd] w (BndPost w (boxes D) ((argG x).getD j (.add []))))
  (hfi:BndFine n D.length x) {w:World} {v:Value} {ad:Option Addr} {cd:Nat} (hg:Glob w) (hd:DimsIn w ad cd D) (hx:ExIn w (raw x) v):Calls Tryz.prog 26 #[v,.slice ad D.length cd] w (BndPost w (boxes D) x):=by
 unfold BndPost
 obtain ⟨tv,aa,ac,rfl,htz,hax⟩:=hx.out
 rw[raw_args] at hax⊢
 rw[raws_len] at hax⊢
 obtain ⟨ta,tc,rfl,-⟩:=id htz
 obtain ⟨s0,hs0⟩:∃s:ByteArray,s=⟨(raw x).c.toArray⟩:=⟨_,rfl⟩
 obtain ⟨s1,hs1⟩:∃s:ByteArray,s=⟨(raw x).f.toArray⟩:=⟨_,rfl⟩
 obtain ⟨tn,htn⟩:∃x',x'=(raw x).t.length:=⟨_,rfl⟩
 obtain ⟨an,han⟩:∃x',x'=(argG x).length:=⟨_,rfl⟩
 obtain ⟨nd,hnd⟩:∃x',x'=D.length:=⟨_,rfl⟩
 obtain ⟨o,ho⟩:∃x',x'=(raw x).op:=⟨_,rfl⟩
 rw[←hs0,←hs1,←htn,←han,←ho,←hnd]
 rw[←htn] at htz
 rw[←han] at hax
 have hoG:o=opG x:=by rw[ho,raw_op]
 obtain ⟨wa,bx,bl,bh,hwa,hbx,hbl,hbh,hal,k0,k1,k2⟩:=new_three w #[.int .i64 o,.string s0,.slice ta tn tc,.string s1,.slice aa an ac] #[.bool false,.slice none 0 0,.bool false,.slice none 0 0] #[.bool false,.slice none 0 0,.bool false,.slice none 0 0] 63 43 43
 have HG:=ZH hg
 have HD:=ZH (ZN hd hD)
 have HFI:=ZH hfi
 have HTZ:=ZH htz
 have HAX:=ZH hax
 have HIH:=ZH ih
 have HAL:=ZH hal
 have HK:=ZH (ZN k0 (ZN k1 k2))
 have HNE:=ZH (show bl≠bh∧bx≠bl∧bx≠bh∧w.heap.size≤bl∧w.heap.size≤bh by omega)
 have HN:=ZH (ZN han (ZN hnd (ZN hs0 (ZN hs1 (ZN htn hoG)))))
 have HW:=ZH (ZN hwa (ZN hbx (ZN hbl hbh)))
 have hcap:an≤ac∧ac≤9223372036854775807:=by
  obtain ⟨_,_,e,h1,h2,-⟩:=hax
  simp only[Value.slice.injEq] at e
  obtain ⟨-,-,rfl⟩:=e
  rw[raws_len,←han] at h1
  exact ⟨h1,h2⟩
 obtain ⟨x0,x1,x2,x3,x4⟩:=cells5 (ZR _ wa) k0
 obtain ⟨z0,z1,z2,z3⟩:=cells4 (ZR _ wa) k1
 obtain ⟨y0,y1,y2,y3⟩:=cells4 (ZR _ wa) k2
 clear hwa hbx hbl hbh hal hg hd hD hfi htz hax ih hs0 hs1 htn hx ho han hnd hoG
 by_cases hop:o=0
 ·-- a form
  subst hop
  have HFM:=ZH (show ∃f,x=.form f from by
   have:=HN.out.2.2.2.2.2
   cases x with
   | form f=>exact ⟨f,rfl⟩
   | _=>exact absurd this (by simp[opG]))
  obtain ⟨f,rfl⟩:=HFM.out
  clear HFM
  have hfo:f.t.length=n:=by have:=HFI.out.over; rwa[Over] at this
  have hlf:=lite_form HFI.out.lite
  have hup:Upto D.length f:=by have:=HFI.out.upto; rwa[UptoG] at this
  have hfz:=fine_texts hlf hfo
  have hlen:=texts_len f
  have htn2:tn=(formTexts f).length:=by rw[HN.out.2.2.2.2.1,raw]; simp[Ex.t,zTerms]
  have hform:FormAt wa (.agg #[.string s0,.slice ta tn tc]) (numText f.c) (formTexts f):=by
   refine ⟨.slice ta tn tc,?_,TermsZ.nat (l:=formTexts f) ?_⟩
   ·rw[HN.out.2.2.1,raw]; rfl
   ·have h:=HTZ.out.below HAL.out
    rw[raw] at h
    exact h
  have hat:∀j,j<(formTexts f).length→(formTexts f).getD j (0,[])∈formTexts f:=fun j hj=>by
   rw[List.getD_eq_getElem?_getD,List.getElem?_eq_getElem hj]
   exact List.getElem_mem hj
  have hsp:=mspread_any (HG.out.below HAL.out) (S:=60) hform (by omega) (HD.out.1.below HAL.out) HD.out.2 (liteF_texts hlf).1 (read_num_ok (by have:=(liteF_texts hlf).1; omega) (by have:=(liteF_texts hlf).1; omega)) (by omega) (fun j hj=>(hfz _ (hat j hj)).2) (by
   have h1:=HFI.out.size
   rw[Go.Proofs.YtdgimcmappmjdaaGreatDoor.bsz] at h1
   omega)
  unfold SpreadPost at hsp
  rw[←HN.out.2.1] at hsp
  have HSP:=ZH hsp
  have HFF:=ZH (ZN hfo (ZN hup (ZN hat (ZN hlen (fun j hj=>(upto_terms.1 hup) _ (hat j hj))))))
  have hkl:=HK.out.2.1
  have hkh:=HK.out.2.2
  clear hfo hlf hup hfz hlen htn2 hform hat hsp k0 k1 k2
  go_enter Tryz.func26,Tryz.ntmps26
  go_upto_region 1 with fail
  rw[←HW.out.1,←HW.out.2.2.2,←HW.out.2.2.1,←HW.out.2.1]
  clear HW
  go_wp2_with fail
  refine HSP.out.mono ?_
  rintro e w1 ⟨hp,-,hb1⟩
  obtain ⟨lo,hi,rfl,hlo,hhi⟩:=hp (fun j hj=>by rw[HN.out.2.1]; exact HFF.out.2.2.2.2 j hj)
  obtain ⟨p1,g1,f1,n1,p2,g2,f2,n2,rfl⟩:=rt_shape hlo
  obtain ⟨p3,g3,f3,n3,p4,g4,f4,n4,rfl⟩:=rt_shape hhi
  have hl1:=(hb1.block bl (ZL hkl)).trans hkl
  have hh1:=(hb1.block bh (ZL hkh)).trans hkh
  obtain ⟨z0,z1,z2,z3⟩:=cells4 (ZR _ w1) hl1
  obtain ⟨y0,y1,y2,y3⟩:=cells4 (ZR _ w1) hh1
  have f0:=ZF hl1 0
  have f1':=ZF hl1 1
  have f2':=ZF hl1 2
  have f3':=ZF hl1 3
  have u0:=ZF hh1 0
  have u1:=ZF hh1 1
  have u2:=ZF hh1 2
  have u3:=ZF hh1 3
  have hne:=HNE.out.1
  have hne2:=HNE.out.1.symm
  obtain ⟨wc,hwc⟩:∃x,x=(((w1.setCell ⟨bl,0,none⟩ (.bool p1)).setCell ⟨bl,1,none⟩ (.slice g1 f1 n1)).setCell ⟨bl,2,none⟩ (.bool p2)).setCell ⟨bl,3,none⟩ (.slice g2 f2 n2):=⟨_,rfl⟩
  have hua:But bl w1 wc:=by rw[hwc]; exact But.set4 (b:=bl) w1 _ _ _ _
  have hkb:=(hua.block bh hne2 (ZL hh1)).trans hh1
  have hub:=But.set4 (b:=bh) wc (.bool p3) (.slice g3 f3 n3) (.bool p4) (.slice g4 f4 n4)
  have r1:=(hlo.but (nodig4 hl1) hua).but (nodig4 hkb) hub
  have r2:=(hhi.but (nodig4 hl1) hua).but (nodig4 hkb) hub
  rw[hwc] at r1 r2
  have hbd:(spreadTo D (numText f.c) (formTexts f) (formTexts f).length)=bnd (boxes D) (.form f):=by
   unfold spreadTo
   rw[List.take_length,read_num]
   refine spread_texts fun i hi=>HFF.out.2.1 i ?_
   unfold boxes at hi
   rwa[List.length_map] at hi
  rw[hbd] at r1 r2
  have hsz2:60+2+(formTexts f).length*(60+6)≤bsz (.form f):=by
   rw[bsz]
   have:=Nat.mul_le_mul_right 66 HFF.out.2.2.2.1
   omega
  have HF:=ZH (ZN (r1.more hsz2) (r2.more hsz2))
  have HFB:=ZH (show Below w.heap.size w _ from (((((((((HAL.out.trans (hb1.mono HAL.out.size)).setCell (p:=⟨bl,0,none⟩) HNE.out.2.2.2.1 (.bool p1)).setCell (p:=⟨bl,1,none⟩) HNE.out.2.2.2.1 (.slice g1 f1 n1)).setCell (p:=⟨bl,2,none⟩) HNE.out.2.2.2.1 (.bool p2)).setCell (p:=⟨bl,3,none⟩) HNE.out.2.2.2.1 (.slice g2 f2 n2)).setCell (p:=⟨bh,0,none⟩) HNE.out.2.2.2.2 (.bool p3)).setCell (p:=⟨bh,1,none⟩) HNE.out.2.2.2.2 (.slice g3 f3 n3)).setCell (p:=⟨bh,2,none⟩) HNE.out.2.2.2.2 (.bool p4)).setCell (p:=⟨bh,3,none⟩) HNE.out.2.2.2.2 (.slice g4 f4 n4)))
  clear hl1 hh1 hua hub hkb r1 r2 hwc hb1 hlo hhi hp hbd hsz2
  go_wp2_with fail
  exact bodyPost_ret (v:=.tuple #[.agg #[.bool p1,.slice g1 f1 n1,.bool p2,.slice g2 f2 n2],.agg #[.bool p3,.slice g3 f3 n3,.bool p4,.slice g4 f4 n4],.int .i64 0]) (by simp[results,Tryz.results26,go_sem,z0,z1,z2,z3,y0,y1,y2,y3]) rfl ⟨_,_,rfl,HF.out.1,HF.out.2,HFB.out⟩
 ·have e0:(o==0)=false:=by simpa using hop
  have HOP:=ZH hop
  clear hop k0 k1 k2 z0 z1 z2 z3 y0 y1 y2 y3
  have hn1:an≤100000:=by
   have h1:=HFI.out.size
   have h2:=asz_le (x:=x) (by rw[←HN.out.2.2.2.2.2]; exact HOP.out)
   have h3:∀l:List GEx,l.length≤bszs l:=fun l=>by
    induction l with
    | nil=>simp
    | cons a l ih=>rw[bszs,List.length_cons]; omega
   have h4:=h3 (argG x)
   unfold asz at h2
   have:=HN.out.1
   omega
  go_enter Tryz.func26,Tryz.ntmps26
  go_upto_region 1 with fail
  rw[←HW.out.1,←HW.out.2.2.2,←HW.out.2.2.1,←HW.out.2.1]
  clear HW
  go_wp2_with fail
  clear x0 x1 x2 x3 x4
  go_loopg [30] an (fun gk i wr=>∃k:Nat,k+gk=an∧i=.int .i64 k∧Hid (∃s1 a1 c1 l1 s2 a2 c2 l2 t1 b1 d1 m1 t2 b2 d2 m2,wr.heap[bl]?=some (.cells #[.bool s1,.slice a1 c1 l1,.bool s2,.slice a2 c2 l2] 43 (0,0))∧wr.heap[bh]?=some (.cells #[.bool t1,.slice b1 d1 m1,.bool t2,.slice b2 d2 m2] 43 (0,0))∧RtIn wr (.agg #[.bool s1,.slice a1 c1 l1,.bool s2,.slice a2 c2 l2]) (combTo o (boxes D) (argG x) k).1 (2+bszs ((argG x).take k))∧RtIn wr (.agg #[.bool t1,.slice b1 d1 m1,.bool t2,.slice b2 d2 m2]) (combTo o (boxes D) (argG x) k).2 (2+bszs ((argG x).take k)))∧Hid (wr.heap[bx]?=some (.cells #[.int .i64 o,.string s0,.slice ta tn tc,.string s1,.slice aa an ac] 63 (0,0)))∧Hid (Below w.heap.size w wr))
  case atStart=>exact ⟨0,by omega,rfl,ZH ⟨_,_,_,_,_,_,_,_,_,_,_,_,_,_,_,_,HK.out.2.1,HK.out.2.2,zero_rt _ _,zero_rt _ _⟩,ZH HK.out.1,HAL⟩
  case round=>
   obtain ⟨k,hk,rfl,hacc,hkx,hbw⟩:=hrel
   obtain ⟨p1,a1,c1,l1,p2,a2,c2,l2,t1,b1,d1,m1,t2,b2,d2,m2,hkl,hkh,hrl,hrh⟩:=hacc.out
   by_cases hlt:k<an
   ·have e1:((k:Int)<(an:Int))=True:=eq_true (by omega)
    obtain ⟨_,_,he,-,-,hcx⟩:=HAX.out
    simp only[Value.slice.injEq] at he
    obtain ⟨rfl,-,rfl⟩:=he
    obtain ⟨g,og,rfl,-,hcc⟩:=hcx (by rw[raws_len,←HN.out.1]; omega)
    have hjl:k<(argG x).length:=by rw[←HN.out.1]; exact hlt
    obtain ⟨utv,ua,uc,c0,c1',c2',c3,c4,htk,hak⟩:=hcc.at (j:=k) (by rw[raws_len]; exact hjl)
    rw[raws_at hjl] at c0 c1' c3 c4 htk hak
    have hihk:=HIH.out k hjl
    have hct:=HFI.out.arg hjl
    have hck0:=fun (h0:k=0)=>combTo_one o (boxes D) (l:=argG x) (by omega)
    have hcks:=fun (h0:0<k)=>combTo_succ o (boxes D) hjl h0
    have hszk:=bszs_take hjl
    obtain ⟨y,hy⟩:∃y,y=(argG x).getD k (.add []):=⟨_,rfl⟩
    rw[←hy] at c0 c1' c3 c4 htk hak hihk hct hszk
    have hck:combTo o (boxes D) (argG x) (k+1)=if k=0 then bnd (boxes D) y else (fop o (combTo o (boxes D) (argG x) k).1 (bnd (boxes D) y).1,fop o (combTo o (boxes D) (argG x) k).2 (bnd (boxes D) y).2):=by
     by_cases h0:k=0
     ·rw[if_pos h0,hy,h0]
      exact hck0 h0
     ·rw[if_neg h0,hy]
      exact hcks (by omega)
    clear hck0 hcks
    obtain ⟨uta,utc,rfl,-⟩:=id htk
    obtain ⟨uo,huo⟩:∃q,q=(raw y).op:=⟨_,rfl⟩
    obtain ⟨us0,hus0⟩:∃s:ByteArray,s=⟨(raw y).c.toArray⟩:=⟨_,rfl⟩
    obtain ⟨us1,hus1⟩:∃s:ByteArray,s=⟨(raw y).f.toArray⟩:=⟨_,rfl⟩
    obtain ⟨utn,hutn⟩:∃q,q=(raw y).t.length:=⟨_,rfl⟩
    obtain ⟨uan,huan⟩:∃q,q=(raw y).a.length:=⟨_,rfl⟩
    have hyx:=ExIn.of htk hak
    rw[←huo,←hus0,←hus1,←hutn,←huan] at hyx
    rw[←huo] at c0
    rw[←hus0] at c1'
    rw[←hutn] at c2'
    rw[←hus1] at c3
    rw[←huan] at c4
    have x0:=ZJ hbw.out c0
    have x1:=ZJ hbw.out c1'
    have x2:=ZJ hbw.out c2'
    have x3:=ZJ hbw.out c3
    have x4:=ZJ hbw.out c4
    have HY:=ZH (ZN hyx hct)
    have HIK:=ZH (show ∀(w:World) (v:Value) (ad:Option Addr) (cd:Nat),Glob w→DimsIn w ad cd D→ExIn w (raw y) v→Calls Tryz.prog 26 #[v,.slice ad nd cd] w (BndPost w (boxes D) y) from by rw[HN.out.2.1]; exact hihk)
    have HLT:=ZH (ZN hlt (ZN hck hszk))
    have HKX:=ZH hkx.out
    have HKK:=ZH (ZN hkl hkh)
    have HRR:=ZH (ZN hrl hrh)
    have hk0:(0:Int)≤(k:Int):=by omega
    have hk1:(k:Int)<(an:Int):=by omega
    obtain ⟨va,hva⟩:∃q,q=combTo o (boxes D) (argG x) k:=⟨_,rfl⟩
    rw[←hva] at HRR HLT
    obtain ⟨K0,hK0⟩:∃q,q=2+bszs ((argG x).take k):=⟨_,rfl⟩
    rw[←hK0] at HRR
    have HBD:=ZH (show K0+bsz y+1≤100000∧2+bszs ((argG x).take (k+1))=K0+bsz y+1∧2≤K0∧2≤bsz y by
     have h1:=HFI.out.size
     have h2:=asz_le (x:=x) (by rw[←HN.out.2.2.2.2.2]; exact HOP.out)
     have h3:=bszs_le (l:=argG x) (k:=k+1)
     have h4:=bsz_two y
     unfold asz at h2
     omega)
    clear hcx hcc c0 c1' c2' c3 c4 htk hak hihk hct hszk hy hck huo hus0 hus1 hutn huan hyx hlt hkx hkl hkh hrl hrh hacc hva hK0 hjl
    go_upto_region 6 with fail
    obtain ⟨w4,hw4⟩:∃q,q=wr.alloc (.cells #[.int .i64 uo,.string us0,.slice uta utn utc,.string us1,.slice ua uan uc] 63):=⟨_,rfl⟩
    obtain ⟨by',hby⟩:∃b,b=wr.heap.size:=⟨_,rfl⟩
    rw[←hw4,←hby]
    have hl4:Below wr.heap.size wr w4:=by rw[hw4]; exact (ZR _ wr).alloc (Nat.le_refl _) _
    have ky:w4.heap[by']?=some (.cells #[.int .i64 uo,.string us0,.slice uta utn utc,.string us1,.slice ua uan uc] 63 (0,0)):=by rw[hw4,hby]; exact ZW wr _
    have HB4:=ZH (hbw.out.trans (hl4.mono hbw.out.size))
    have HKX4:=ZH ((hl4.block bx (ZL HKX.out)).trans HKX.out)
    have HKK4:=ZH (ZN ((hl4.block bl (ZL HKK.out.1)).trans HKK.out.1) ((hl4.block bh (ZL HKK.out.2)).trans HKK.out.2))
    have HRR4:=ZH (ZN (HRR.out.1.below hl4) (HRR.out.2.below hl4))
    obtain ⟨y0,y1,y2,y3,y4⟩:=cells5 (ZR _ w4) ky
    have hcall:=HIK.out _ _ _ _ (HG.out.below HB4.out) (HD.out.1.below HB4.out) (HY.out.1.below HB4.out)
    unfold BndPost at hcall
    have HCL:=ZH hcall
    clear hw4 hby hl4 ky x0 x1 x2 x3 x4 hk0 hk1 HKX HKK HRR hbw hcall HIK
    go_wp2_with fail
    refine HCL.out.mono ?_
    rintro e w5 ⟨lo,hi,rfl,hlo,hhi,hb5⟩
    obtain ⟨q1,g1,i1,j1,q2,g2,i2,j2,rfl⟩:=rt_shape hlo
    obtain ⟨q3,g3,i3,j3,q4,g4,i4,j4,rfl⟩:=rt_shape hhi
    have HR5:=ZH (ZN hlo hhi)
    have HB5:=ZH hb5
    clear hlo hhi hb5 y0 y1 y2 y3 y4 HCL
    go_upto_region 7 with fail
    obtain ⟨w6,bA,bB,hw6,hbA,hbB,hl6,kA,kB⟩:=new_two w5 #[.bool q1,.slice g1 i1 j1,.bool q2,.slice g2 i2 j2] #[.bool q3,.slice g3 i3 j3,.bool q4,.slice g4 i4 j4] 43 43
    rw[←hw6,←hbB,←hbA]
    have h46:=HB5.out.trans (hl6.mono HB5.out.size)
    have HB6:=ZH (HB4.out.trans (h46.mono HB4.out.size))
    have HKX6:=ZH ((h46.block bx (ZL HKX4.out)).trans HKX4.out)
    have HKK6:=ZH (ZN ((h46.block bl (ZL HKK4.out.1)).trans HKK4.out.1) ((h46.block bh (ZL HKK4.out.2)).trans HKK4.out.2))
    have HRR6:=ZH (ZN (HRR4.out.1.below h46) (HRR4.out.2.below h46))
    have HAB6:=ZH (ZN kA kB)
    have HRAB6:=ZH (ZN (HR5.out.1.below hl6) (HR5.out.2.below hl6))
    have HN6:=ZH (show bl<bA∧bl<bB∧bh<bA∧bh<bB by
     have h1:=ZL HKK4.out.1
     have h2:=ZL HKK4.out.2
     have h3:=HB5.out.size
     omega)
    have HW6:=ZH (ZR w6.heap.size w6)
    clear hw6 hbA hbB hl6 kA kB h46 HB4 HKX4 HKK4 HRR4 HR5 HB5
    go_upto_region 9 with fail
    by_cases h0:k=0
    ·subst h0
     go_upto_region 10 with fail
     have hl9:=HKK6.out.1
     have hh9:=HKK6.out.2
     have hx9:=HKX6.out
     have fl0:=ZF hl9 0
     have fl1:=ZF hl9 1
     have fl2:=ZF hl9 2
     have fl3:=ZF hl9 3
     obtain ⟨flz0,flz1,flz2,flz3⟩:=cells4 (ZR _ w6) hl9
     have fh0:=ZF hh9 0
     have fh1:=ZF hh9 1
     have fh2:=ZF hh9 2
     have fh3:=ZF hh9 3
     obtain ⟨fhz0,fhz1,fhz2,fhz3⟩:=cells4 (ZR _ w6) hh9
     have hne:=HNE.out.1
     have hne2:=HNE.out.1.symm
     obtain ⟨qa0,qa1,qa2,qa3⟩:=cells4 (ZR _ w6) HAB6.out.1
     obtain ⟨qb0,qb1,qb2,qb3⟩:=cells4 (ZR _ w6) HAB6.out.2
     have n1:¬bA=bl:=by have:=HN6.out; omega
     have n2:¬bB=bl:=by have:=HN6.out; omega
     have n3:¬bA=bh:=by have:=HN6.out; omega
     have n4:¬bB=bh:=by have:=HN6.out; omega
     have H49:=ZH (ZN (HRAB6.out.1) (ZN (HRAB6.out.2) (ZN hl9 (ZN hh9 hx9))))
     clear hl9 hh9 hx9
     go_region
     go_upto_region 12 with fail
     obtain ⟨wc,hwc⟩:∃x,x=(((w6.setCell ⟨bl,0,none⟩ (.bool q1)).setCell ⟨bl,1,none⟩ (.slice g1 i1 j1)).setCell ⟨bl,2,none⟩ (.bool q2)).setCell ⟨bl,3,none⟩ (.slice g2 i2 j2):=⟨_,rfl⟩
     rw[←hwc]
     obtain ⟨wd,hwd⟩:∃x,x=(((wc.setCell ⟨bh,0,none⟩ (.bool q3)).setCell ⟨bh,1,none⟩ (.slice g3 i3 j3)).setCell ⟨bh,2,none⟩ (.bool q4)).setCell ⟨bh,3,none⟩ (.slice g4 i4 j4):=⟨_,rfl⟩
     rw[←hwd]
     have hua:But bl w6 wc:=by rw[hwc]; exact But.set4 (b:=bl) w6 _ _ _ _
     have hub:But bh wc wd:=by rw[hwd]; exact But.set4 (b:=bh) wc _ _ _ _
     have hka:wc.heap[bl]?=some (.cells #[.bool q1,.slice g1 i1 j1,.bool q2,.slice g2 i2 j2] 43 (0,0)):=by rw[hwc]; exact four_set H49.out.2.2.1 _ _ _ _
     have hkb:=(hua.block bh HNE.out.1.symm (ZL H49.out.2.2.2.1)).trans H49.out.2.2.2.1
     have hkb8:wd.heap[bh]?=some (.cells #[.bool q3,.slice g3 i3 j3,.bool q4,.slice g4 i4 j4] 43 (0,0)):=by rw[hwd]; exact four_set hkb _ _ _ _
     have hka8:=(hub.block bl HNE.out.1 (ZL hka)).trans hka
     have hkx1:=(hua.block bx HNE.out.2.1 (ZL H49.out.2.2.2.2)).trans H49.out.2.2.2.2
     have hkx8:=(hub.block bx HNE.out.2.2.1 (ZL hkx1)).trans hkx1
     have r1:=((H49.out.1.but (nodig4 H49.out.2.2.1) hua).but (nodig4 hkb) hub).more (show bsz y≤2+bszs ((argG x).take (0+1)) by have:=HBD.out; omega)
     have r2:=((H49.out.2.1.but (nodig4 H49.out.2.2.1) hua).but (nodig4 hkb) hub).more (show bsz y≤2+bszs ((argG x).take (0+1)) by have:=HBD.out; omega)
     have hB9:Below w.heap.size w wd:=by
      rw[hwd,hwc]
      exact ((((((((HB6.out.setCell (p:=⟨bl,0,none⟩) HNE.out.2.2.2.1 _).setCell (p:=⟨bl,1,none⟩) HNE.out.2.2.2.1 _).setCell (p:=⟨bl,2,none⟩) HNE.out.2.2.2.1 _).setCell (p:=⟨bl,3,none⟩) HNE.out.2.2.2.1 _).setCell (p:=⟨bh,0,none⟩) HNE.out.2.2.2.2 _).setCell (p:=⟨bh,1,none⟩) HNE.out.2.2.2.2 _).setCell (p:=⟨bh,2,none⟩) HNE.out.2.2.2.2 _).setCell (p:=⟨bh,3,none⟩) HNE.out.2.2.2.2 _)
     obtain ⟨we,hwe⟩:∃x,x=wd.drew:=⟨_,rfl⟩
     rw[←hwe]
     have hle:Below wd.heap.size wd we:=by rw[hwe]; exact (ZR _ _).drew
     have hka8:=(hle.block bl (ZL hka8)).trans hka8
     have hkb8:=(hle.block bh (ZL hkb8)).trans hkb8
     have hkx8:=(hle.block bx (ZL hkx8)).trans hkx8
     have r1:=r1.below hle
     have r2:=r2.below hle
     have hB9:=hB9.trans (hle.mono hB9.size)
     clear hwe hle
     have HF:=ZH (ZN hka8 (ZN hkb8 (ZN r1 (ZN r2 (ZN hkx8 hB9)))))
     clear hwc hwd hua hub hka hkb hkb8 hka8 r1 r2 hkx1 hkx8 hne hne2 hB9 fl0 fl1 fl2 fl3 fh0 fh1 fh2 fh3 flz0 flz1 flz2 flz3 fhz0 fhz1 fhz2 fhz3 qa0 qa1 qa2 qa3 qb0 qb1 qb2 qb3 n1 n2 n3 n4
     go_wp2_with fail
     go_roundg (an-(0+1))
     case measure=>have:=HLT.out.1; omega
     case rel=>exact ⟨0+1,by have:=HLT.out.1; omega,by congr 1,ZH ⟨_,_,_,_,_,_,_,_,_,_,_,_,_,_,_,_,HF.out.1,HF.out.2.1,by rw[HLT.out.2.1,if_pos trivial]; exact HF.out.2.2.1,by rw[HLT.out.2.1,if_pos trivial]; exact HF.out.2.2.2.1⟩,ZH HF.out.2.2.2.2.1,ZH HF.out.2.2.2.2.2⟩
    ·have e2:((k:Int)==0)=false:=by simp; omega
     have hck:=HLT.out.2.1
     rw[if_neg h0] at hck
     have HCK:=ZH hck
     clear h0 hck
     go_upto_region 11 with fail
     refine FlowR.wp_region_sel (fun a b=>Below a.heap.size a b) (fun a=>ZR _ a) (fun _ _ _ h k=>h.trans (k.mono h.size)) [0,1,2,3,4,5,6,7,8,9,10,11] [false,false,false,false,false,false,false,false,false,false,false,false,false,false] [true,true,true,true,true,true,true,true,true,true,true,true,false,false] (fun i9 v w'=>match i9 with
      | 0=>v=.pointer (some ⟨bx,0,none⟩)
      | 1=>v=.int .i64 o
      | 2=>v=.func (.func (pickF o)) #[] #[]
      | 3=>v=.agg #[.bool p1,.slice a1 c1 l1,.bool p2,.slice a2 c2 l2]
      | 4=>v=.agg #[.bool q1,.slice g1 i1 j1,.bool q2,.slice g2 i2 j2]
      | 5=>RtIn w' v (fop o va.1 (bnd (boxes D) y).1) (K0+bsz y+1)
      | 6=>v=.pointer (some ⟨bx,0,none⟩)
      | 7=>v=.int .i64 o
      | 8=>v=.func (.func (pickF o)) #[] #[]
      | 9=>v=.agg #[.bool t1,.slice b1 d1 m1,.bool t2,.slice b2 d2 m2]
      | 10=>v=.agg #[.bool q3,.slice g3 i3 j3,.bool q4,.slice g4 i4 j4]
      | _=>RtIn w' v (fop o va.2 (bnd (boxes D) y).2) (K0+bsz y+1)) rfl rfl (by kernel_rfl) (by kernel_rfl) (by kernel_rfl) (by kernel_rfl) ?st ?steps ?fin
     case st=>
      intro i9 v u1 u2 h hb
      match i9 with
      | 0 | 1 | 2 | 3 | 4 | 6 | 7 | 8 | 9 | 10=>exact h
      | 5=>exact (show RtIn u1 v (fop o va.1 (bnd (boxes D) y).1) (K0+bsz y+1) from h).below hb
      | 11 | _+12=>exact (show RtIn u1 v (fop o va.2 (bnd (boxes D) y).2) (K0+bsz y+1) from h).below hb
     case steps=>
      refine zSc (zSo rfl ?s0) (zSc (zSo rfl ?s1) (zSc (zSo rfl ?s2) (zSc (zSo rfl ?s3) (zSc (zSo rfl ?s4) (zSc (zSo rfl ?s5) (zSc (zSo rfl ?s6) (zSc (zSo rfl ?s7) (zSc (zSo rfl ?s8) (zSc (zSo rfl ?s9) (zSc (zSo rfl ?s10) (zSc (zSo rfl ?s11) zSn)))))))))))
      case s0 | s6=>
       intro xs w' hb hT K9 hK9
       clear hT
       simp only[zFp,zAp,zLa,zLb,zLc,Nat.reduceAdd,zNz] at hK9⊢
       have hw:=Flow.hwD HW6.out hb
       go_simp
       exact hK9 _ _ (ZR _ _) rfl
      case s1=>
       intro xs w' hb hT K9 hK9
       have h0:(xs 0)=.pointer (some ⟨bx,0,none⟩):=hT 0 (by kernel_rfl)
       clear hT
       simp only[zFp,zAp,zLa,zLb,zLc,Nat.reduceAdd,zNz] at hK9⊢
       have hw:=Flow.hwD HW6.out hb
       have kb:=(hw.block bx (ZL HKX6.out)).trans HKX6.out
       have y0:=ZI kb 0
       clear kb
       simp at y0
       (try simp only[h0] at hK9)
       go_simp
       exact hK9 _ _ (ZR _ _) rfl
      case s2=>
       intro xs w' hb hT K9 hK9
       have h1:(xs 1)=.int .i64 o:=hT 1 (by kernel_rfl)
       clear hT
       simp only[zFp,zAp,zLa,zLb,zLc,Nat.reduceAdd,zNz] at hK9⊢
       have hw:=Flow.hwD HW6.out hb
       (try simp only[h1] at hK9)
       go_simp
       go_at_call 72
       refine (mpick_any o).mono ?_
       rintro e w3 ⟨rfl,hb3⟩
       exact hK9 _ _ hb3 rfl
      case s3=>
       intro xs w' hb hT K9 hK9
       clear hT
       simp only[zFp,zAp,zLa,zLb,zLc,Nat.reduceAdd,zNz] at hK9⊢
       have hw:=Flow.hwD HW6.out hb
       have kb:=(hw.block bl (ZL HKK6.out.1)).trans HKK6.out.1
       have y0:=ZI kb 0
       have y1:=ZI kb 1
       have y2:=ZI kb 2
       have y3:=ZI kb 3
       clear kb
       simp at y0 y1 y2 y3
       go_simp
       exact hK9 _ _ (ZR _ _) rfl
      case s4=>
       intro xs w' hb hT K9 hK9
       clear hT
       simp only[zFp,zAp,zLa,zLb,zLc,Nat.reduceAdd,zNz] at hK9⊢
       have hw:=Flow.hwD HW6.out hb
       have kb:=(hw.block bA (ZL HAB6.out.1)).trans HAB6.out.1
       have y0:=ZI kb 0
       have y1:=ZI kb 1
       have y2:=ZI kb 2
       have y3:=ZI kb 3
       clear kb
       simp at y0 y1 y2 y3
       go_simp
       exact hK9 _ _ (ZR _ _) rfl
      case s5=>
       intro xs w' hb hT K9 hK9
       have h2:(xs 2)=.func (.func (pickF o)) #[] #[]:=hT 2 (by kernel_rfl)
       have h3:(xs 3)=.agg #[.bool p1,.slice a1 c1 l1,.bool p2,.slice a2 c2 l2]:=hT 3 (by kernel_rfl)
       have h4:(xs 4)=.agg #[.bool q1,.slice g1 i1 j1,.bool q2,.slice g2 i2 j2]:=hT 4 (by kernel_rfl)
       clear hT
       simp only[zFp,zAp,zLa,zLb,zLc,Nat.reduceAdd,zNz] at hK9⊢
       have hw:=Flow.hwD HW6.out hb
       (try simp only[h2] at hK9)
       (try simp only[h3] at hK9)
       (try simp only[h4] at hK9)
       have he:=enters_pick o
       go_simp
       refine (pick_any (o:=o) (HRR6.out.1.below hw) (HRAB6.out.1.below hw) HBD.out.2.2.1 HBD.out.2.2.2 (by have:=HBD.out; omega)).mono ?_
       rintro e w3 ⟨v3,rfl,hi3,hb3⟩
       exact hK9 _ _ hb3 hi3
      case s7=>
       intro xs w' hb hT K9 hK9
       have h6:(xs 6)=.pointer (some ⟨bx,0,none⟩):=hT 6 (by kernel_rfl)
       clear hT
       simp only[zFp,zAp,zLa,zLb,zLc,Nat.reduceAdd,zNz] at hK9⊢
       have hw:=Flow.hwD HW6.out hb
       have kb:=(hw.block bx (ZL HKX6.out)).trans HKX6.out
       have y0:=ZI kb 0
       clear kb
       simp at y0
       (try simp only[h6] at hK9)
       go_simp
       exact hK9 _ _ (ZR _ _) rfl
      case s8=>
       intro xs w' hb hT K9 hK9
       have h7:(xs 7)=.int .i64 o:=hT 7 (by kernel_rfl)
       clear hT
       simp only[zFp,zAp,zLa,zLb,zLc,Nat.reduceAdd,zNz] at hK9⊢
       have hw:=Flow.hwD HW6.out hb
       (try simp only[h7] at hK9)
       go_simp
       go_at_call 72
       refine (mpick_any o).mono ?_
       rintro e w3 ⟨rfl,hb3⟩
       exact hK9 _ _ hb3 rfl
      case s9=>
       intro xs w' hb hT K9 hK9
       clear hT
       simp only[zFp,zAp,zLa,zLb,zLc,Nat.reduceAdd,zNz] at hK9⊢
       have hw:=Flow.hwD HW6.out hb
       have kb:=(hw.block bh (ZL HKK6.out.2)).trans HKK6.out.2
       have y0:=ZI kb 0
       have y1:=ZI kb 1
       have y2:=ZI kb 2
       have y3:=ZI kb 3
       clear kb
       simp at y0 y1 y2 y3
       go_simp
       exact hK9 _ _ (ZR _ _) rfl
      case s10=>
       intro xs w' hb hT K9 hK9
       clear hT
       simp only[zFp,zAp,zLa,zLb,zLc,Nat.reduceAdd,zNz] at hK9⊢
       have hw:=Flow.hwD HW6.out hb
       have kb:=(hw.block bB (ZL HAB6.out.2)).trans HAB6.out.2
       have y0:=ZI kb 0
       have y1:=ZI kb 1
       have y2:=ZI kb 2
       have y3:=ZI kb 3
       clear kb
       simp at y0 y1 y2 y3
       go_simp
       exact hK9 _ _ (ZR _ _) rfl
      case s11=>
       intro xs w' hb hT K9 hK9
       have h8:(xs 8)=.func (.func (pickF o)) #[] #[]:=hT 8 (by kernel_rfl)
       have h9:(xs 9)=.agg #[.bool t1,.slice b1 d1 m1,.bool t2,.slice b2 d2 m2]:=hT 9 (by kernel_rfl)
       have h10:(xs 10)=.agg #[.bool q3,.slice g3 i3 j3,.bool q4,.slice g4 i4 j4]:=hT 10 (by kernel_rfl)
       clear hT
       simp only[zFp,zAp,zLa,zLb,zLc,Nat.reduceAdd,zNz] at hK9⊢
       have hw:=Flow.hwD HW6.out hb
       (try simp only[h8] at hK9)
       (try simp only[h9] at hK9)
       (try simp only[h10] at hK9)
       have he:=enters_pick o
       go_simp
       refine (pick_any (o:=o) (HRR6.out.2.below hw) (HRAB6.out.2.below hw) HBD.out.2.2.1 HBD.out.2.2.2 (by have:=HBD.out; omega)).mono ?_
       rintro e w3 ⟨v3,rfl,hi3,hb3⟩
       exact hK9 _ _ hb3 hi3
     case fin=>
      intro xs w' hb hT
      have hw:=Flow.hwD HW6.out hb
      have h5:RtIn w' (xs 5) (fop o va.1 (bnd (boxes D) y).1) (K0+bsz y+1):=hT 5 (by rfl)
      have h11:RtIn w' (xs 11) (fop o va.2 (bnd (boxes D) y).2) (K0+bsz y+1):=hT 11 (by rfl)
      clear hT
      simp only[zFp,zAp,zLa,zLb,zLc,Nat.reduceAdd,zNz,FlowR.restL,FlowR.orM,Bool.false_or]
      obtain ⟨p5',g7,i7,j7,p6',g8,i8,j8,e5⟩:=rt_shape h5
      obtain ⟨p7',g9,i9,j9,p8',gx,ix,jx,e11⟩:=rt_shape h11
      rw[e5] at h5
      rw[e11] at h11
      simp only[e5,e11]
      clear e5 e11
      have hl9:=(hw.block bl (ZL HKK6.out.1)).trans HKK6.out.1
      have hh9:=(hw.block bh (ZL HKK6.out.2)).trans HKK6.out.2
      have hx9:=(hw.block bx (ZL HKX6.out)).trans HKX6.out
      have fl0:=ZF hl9 0
      have fl1:=ZF hl9 1
      have fl2:=ZF hl9 2
      have fl3:=ZF hl9 3
      obtain ⟨flz0,flz1,flz2,flz3⟩:=cells4 (ZR _ w') hl9
      have fh0:=ZF hh9 0
      have fh1:=ZF hh9 1
      have fh2:=ZF hh9 2
      have fh3:=ZF hh9 3
      obtain ⟨fhz0,fhz1,fhz2,fhz3⟩:=cells4 (ZR _ w') hh9
      have hne:=HNE.out.1
      have hne2:=HNE.out.1.symm
      have H49:=ZH (ZN (h5) (ZN (h11) (ZN hl9 (ZN hh9 hx9))))
      have HW9:=ZH hw
      clear hl9 hh9 hx9 h5 h11 hb hw
      go_upto_region 12 with fail
      obtain ⟨wc,hwc⟩:∃x,x=(((w'.setCell ⟨bl,0,none⟩ (.bool p5')).setCell ⟨bl,1,none⟩ (.slice g7 i7 j7)).setCell ⟨bl,2,none⟩ (.bool p6')).setCell ⟨bl,3,none⟩ (.slice g8 i8 j8):=⟨_,rfl⟩
      rw[←hwc]
      obtain ⟨wd,hwd⟩:∃x,x=(((wc.setCell ⟨bh,0,none⟩ (.bool p7')).setCell ⟨bh,1,none⟩ (.slice g9 i9 j9)).setCell ⟨bh,2,none⟩ (.bool p8')).setCell ⟨bh,3,none⟩ (.slice gx ix jx):=⟨_,rfl⟩
      rw[←hwd]
      have hua:But bl w' wc:=by rw[hwc]; exact But.set4 (b:=bl) w' _ _ _ _
      have hub:But bh wc wd:=by rw[hwd]; exact But.set4 (b:=bh) wc _ _ _ _
      have hka:wc.heap[bl]?=some (.cells #[.bool p5',.slice g7 i7 j7,.bool p6',.slice g8 i8 j8] 43 (0,0)):=by rw[hwc]; exact four_set H49.out.2.2.1 _ _ _ _
      have hkb:=(hua.block bh HNE.out.1.symm (ZL H49.out.2.2.2.1)).trans H49.out.2.2.2.1
      have hkb8:wd.heap[bh]?=some (.cells #[.bool p7',.slice g9 i9 j9,.bool p8',.slice gx ix jx] 43 (0,0)):=by rw[hwd]; exact four_set hkb _ _ _ _
      have hka8:=(hub.block bl HNE.out.1 (ZL hka)).trans hka
      have hkx1:=(hua.block bx HNE.out.2.1 (ZL H49.out.2.2.2.2)).trans H49.out.2.2.2.2
      have hkx8:=(hub.block bx HNE.out.2.2.1 (ZL hkx1)).trans hkx1
      have r1:=((H49.out.1.but (nodig4 H49.out.2.2.1) hua).but (nodig4 hkb) hub).more (show K0+bsz y+1≤2+bszs ((argG x).take (k+1)) by have:=HBD.out; omega)
      have r2:=((H49.out.2.1.but (nodig4 H49.out.2.2.1) hua).but (nodig4 hkb) hub).more (show K0+bsz y+1≤2+bszs ((argG x).take (k+1)) by have:=HBD.out; omega)
      have hB9:Below w.heap.size w wd:=by
       rw[hwd,hwc]
       exact (((((((((HB6.out.trans (HW9.out.mono HB6.out.size)).setCell (p:=⟨bl,0,none⟩) HNE.out.2.2.2.1 _).setCell (p:=⟨bl,1,none⟩) HNE.out.2.2.2.1 _).setCell (p:=⟨bl,2,none⟩) HNE.out.2.2.2.1 _).setCell (p:=⟨bl,3,none⟩) HNE.out.2.2.2.1 _).setCell (p:=⟨bh,0,none⟩) HNE.out.2.2.2.2 _).setCell (p:=⟨bh,1,none⟩) HNE.out.2.2.2.2 _).setCell (p:=⟨bh,2,none⟩) HNE.out.2.2.2.2 _).setCell (p:=⟨bh,3,none⟩) HNE.out.2.2.2.2 _)
      have HF:=ZH (ZN hka8 (ZN hkb8 (ZN r1 (ZN r2 (ZN hkx8 hB9)))))
      clear hwc hwd hua hub hka hkb hkb8 hka8 r1 r2 hkx1 hkx8 hne hne2 hB9 fl0 fl1 fl2 fl3 fh0 fh1 fh2 fh3 flz0 flz1 flz2 flz3 fhz0 fhz1 fhz2 fhz3
      go_wp2_with fail
      go_roundg (an-(k+1))
      case measure=>have:=HLT.out.1; omega
      case rel=>exact ⟨k+1,by have:=HLT.out.1; omega,by congr 1,ZH ⟨_,_,_,_,_,_,_,_,_,_,_,_,_,_,_,_,HF.out.1,HF.out.2.1,by rw[HCK.out]; exact HF.out.2.2.1,by rw[HCK.out]; exact HF.out.2.2.2.1⟩,ZH HF.out.2.2.2.2.1,ZH HF.out.2.2.2.2.2⟩
   ·have e1:((k:Int)<(an:Int))=False:=eq_false (by omega)
    obtain rfl:k=an:=by omega
    have HKX9:=ZH hkx.out
    have HKK9:=ZH (ZN hkl hkh)
    rw[HN.out.1,List.take_length] at hrl hrh
    have HRR9:=ZH (ZN hrl hrh)
    have HB9:=ZH hbw.out
    have HW9:=ZH (ZR wr.heap.size wr)
    clear hacc hkx hkl hkh hrl hrh hbw
    obtain ⟨x0,x1,x2,x3,x4⟩:=cells5 (ZR _ wr) HKX9.out
    by_cases h2:o=2
    ·subst h2
     have HFM:=ZH (show ∃q a,x=.scale q a from by
      have:=HN.out.2.2.2.2.2
      cases x with
      | scale q a=>exact ⟨q,a,rfl⟩
      | _=>exact absurd this (by simp[opG]))
     obtain ⟨q,a,rfl⟩:=HFM.out
     clear HFM
     have hqt:(numText q).length≤60:=by
      obtain ⟨h1,h2⟩:=HFI.out.lite
      have h3:=HFI.out.over
      rw[Go.Gx.Den] at h1
      rw[Go.Gx.wt] at h2
      rw[Over] at h3
      obtain ⟨d,r,e,h4,-⟩:=h1
      have h5:=Go.Gx.one_wt h3
      have h6:=Go.Gx.big_ab q
      have h7:=Go.Gx.big_one q
      refine (lite_num (r:=q) ?_ ?_).1
      ·have:=Go.Gx.m2_more h4 (20-d)
       rwa[show 20-d+d=20 by omega] at this
      ·have h8:Go.Gx.big q*1≤Go.Gx.big q*Go.Gx.wt a:=Rat.mul_le_mul_of_nonneg_left h5 (by grind)
       rw[Rat.mul_one] at h8
       exact Rat.le_trans h6 (Rat.le_trans h8 h2)
     have hs1:s1.data.toList=numText q:=by rw[HN.out.2.2.2.1,raw]; rfl
     have hrd:=mread_any s1 (w:=wr) (by
      have h1:s1.size=(numText q).length:=by rw[HN.out.2.2.2.1,raw]; simp[ByteArray.size,Ex.f]
      omega) (HG.out.below HB9.out) (by rw[hs1]; exact read_num_ok (by omega) (by omega))
     rw[hs1,read_num] at hrd
     have HRD:=ZH hrd
     have HQ:=ZH hqt
     have hcb:combTo 2 (boxes D) (argG (.scale q a)) (argG (.scale q a)).length=bnd (boxes D) a:=combTo_one 2 (boxes D) (l:=[a]) (by simp)
     rw[hcb,show 2+bszs (argG (.scale q a))=bsz a+3 by simp[argG,bszs]; omega] at HRR9
     have HBA:=ZH (show bsz a≤100000∧bsz (.scale q a)=bsz a+65 by
      have:=HFI.out.size
      rw[bsz] at this⊢
      omega)
     clear hqt hs1 hrd hcb
     go_wp2_with fail
     refine HRD.out.mono ?_
     rintro e w5 ⟨v5,rfl,hr5,hb5⟩
     obtain ⟨u1,i1,j1,o1,u2,i2,j2,o2,rfl⟩:=rt_shape hr5
     have HR5:=ZH (hr5.more (show (numText q).length+2≤62 by have:=HQ.out; omega))
     have HB5:=ZH hb5
     clear hr5 hb5 x0 x1 x2 x3 x4 HRD
     go_upto_region 16 with fail
     obtain ⟨w6,bk,hw6,hbk,hl6,kk⟩:=new_box w5 #[.bool u1,.slice i1 j1 o1,.bool u2,.slice i2 j2 o2] 43
     rw[←hw6,←hbk]
     have h96:=HB5.out.trans (hl6.mono HB5.out.size)
     have HK6:=ZH (ZN kk (HR5.out.below hl6))
     have HKK6:=ZH (ZN ((h96.block bl (ZL HKK9.out.1)).trans HKK9.out.1) ((h96.block bh (ZL HKK9.out.2)).trans HKK9.out.2))
     have HRR6:=ZH (ZN (HRR9.out.1.below h96) (HRR9.out.2.below h96))
     have HB6:=ZH (HB9.out.trans (h96.mono HB9.out.size))
     have HW6:=ZH (ZR w6.heap.size w6)
     clear hw6 hbk hl6 kk h96 HR5 HB5 HKK9 HRR9 HB9 HW9 HKX9
     refine FlowX.wp_region_mix (fun a b=>Below a.heap.size a b) (fun _ _ h=>h) [0,1,2,3,4,5,6,7] [true,true,true,true,true,true,true,true,false,false] (fun j9=>[6,7].contains j9) (fun i9 v w'=>match i9 with
      | 0=>v=.agg #[.bool u1,.slice i1 j1 o1,.bool u2,.slice i2 j2 o2]
      | 1=>v=.agg #[.bool p1,.slice a1 c1 l1,.bool p2,.slice a2 c2 l2]
      | 2=>RtIn w' v (q*(bnd (boxes D) a).1) (62+(bsz a+3))
      | 3=>v=.agg #[.bool u1,.slice i1 j1 o1,.bool u2,.slice i2 j2 o2]
      | 4=>v=.agg #[.bool t1,.slice b1 d1 m1,.bool t2,.slice b2 d2 m2]
      | 5=>RtIn w' v (q*(bnd (boxes D) a).2) (62+(bsz a+3))
      | 6=>True
      | _=>True) (FlowX.TwoBox w6.heap.size #[.bool false,.slice none 0 0,.bool false,.slice none 0 0] 43 6 7) rfl rfl (by kernel_rfl) (by kernel_rfl) (by kernel_rfl) (by kernel_rfl) ?st ?hX ?hX0 ?steps ?fin
     case st=>
      intro i9 v u1 u2 h hb
      match i9 with
      | 0 | 1 | 3 | 4 | 6 | 7 | _+8=>exact h
      | 2=>exact (show RtIn u1 v (q*(bnd (boxes D) a).1) (62+(bsz a+3)) from h).below hb
      | 5=>exact (show RtIn u1 v (q*(bnd (boxes D) a).2) (62+(bsz a+3)) from h).below hb
     case hX=>exact fun L xs w L' xs' w' h he hb=>h.below (he 6 rfl) (he 7 rfl) hb
     case hX0=>exact fun xs=>FlowX.TwoBox.init _ _
     case steps=>
      refine Flow.Steps.cons (.inl ⟨rfl,FlowX.StepS.of rfl ?s0⟩) (Flow.Steps.cons (.inl ⟨rfl,FlowX.StepS.of rfl ?s1⟩) (Flow.Steps.cons (.inl ⟨rfl,FlowX.StepS.of rfl ?s2⟩) (Flow.Steps.cons (.inl ⟨rfl,FlowX.StepS.of rfl ?s3⟩) (Flow.Steps.cons (.inl ⟨rfl,FlowX.StepS.of rfl ?s4⟩) (Flow.Steps.cons (.inl ⟨rfl,FlowX.StepS.of rfl ?s5⟩) (Flow.Steps.cons (.inr ⟨rfl,FlowX.StepX.of rfl ?s6⟩) (Flow.Steps.cons (.inr ⟨rfl,FlowX.StepX.of rfl ?s7⟩) zSn)))))))
      case s0 | s3=>
       intro L9 xs w' hb hT hX9 K9 hK9
       clear hT
       simp only[zFp,zAp,zLa,zLb,zLc,Nat.reduceAdd,zNz] at hK9⊢
       have hw:=Flow.hwD HW6.out hb
       have kb:=(hw.block bk (ZL HK6.out.1)).trans HK6.out.1
       have y0:=ZI kb 0
       have y1:=ZI kb 1
       have y2:=ZI kb 2
       have y3:=ZI kb 3
       clear kb
       simp at y0 y1 y2 y3
       go_simp
       exact hK9 _ _ (ZR _ _) rfl
      case s1=>
       intro L9 xs w' hb hT hX9 K9 hK9
       clear hT
       simp only[zFp,zAp,zLa,zLb,zLc,Nat.reduceAdd,zNz] at hK9⊢
       have hw:=Flow.hwD HW6.out hb
       have kb:=(hw.block bl (ZL HKK6.out.1)).trans HKK6.out.1
       have y0:=ZI kb 0
       have y1:=ZI kb 1
       have y2:=ZI kb 2
       have y3:=ZI kb 3
       clear kb
       simp at y0 y1 y2 y3
       go_simp
       exact hK9 _ _ (ZR _ _) rfl
      case s2=>
       intro L9 xs w' hb hT hX9 K9 hK9
       have h0:(xs 0)=.agg #[.bool u1,.slice i1 j1 o1,.bool u2,.slice i2 j2 o2]:=(hT 0 (by kernel_rfl)).2
       have h1:(xs 1)=.agg #[.bool p1,.slice a1 c1 l1,.bool p2,.slice a2 c2 l2]:=(hT 1 (by kernel_rfl)).2
       clear hT
       simp only[zFp,zAp,zLa,zLb,zLc,Nat.reduceAdd,zNz] at hK9⊢
       have hw:=Flow.hwD HW6.out hb
       (try simp only[h0] at hK9)
       (try simp only[h1] at hK9)
       go_simp
       go_at_call 74
       refine (ratMul_any (HK6.out.2.below hw) (HRR6.out.1.below hw) (by omega) (by omega) (by have:=HBA.out; omega)).mono ?_
       rintro e w3 ⟨v3,rfl,hi3,hb3⟩
       exact hK9 _ _ hb3 hi3
      case s4=>
       intro L9 xs w' hb hT hX9 K9 hK9
       clear hT
       simp only[zFp,zAp,zLa,zLb,zLc,Nat.reduceAdd,zNz] at hK9⊢
       have hw:=Flow.hwD HW6.out hb
       have kb:=(hw.block bh (ZL HKK6.out.2)).trans HKK6.out.2
       have y0:=ZI kb 0
       have y1:=ZI kb 1
       have y2:=ZI kb 2
       have y3:=ZI kb 3
       clear kb
       simp at y0 y1 y2 y3
       go_simp
       exact hK9 _ _ (ZR _ _) rfl
      case s5=>
       intro L9 xs w' hb hT hX9 K9 hK9
       have h3:(xs 3)=.agg #[.bool u1,.slice i1 j1 o1,.bool u2,.slice i2 j2 o2]:=(hT 3 (by kernel_rfl)).2
       have h4:(xs 4)=.agg #[.bool t1,.slice b1 d1 m1,.bool t2,.slice b2 d2 m2]:=(hT 4 (by kernel_rfl)).2
       clear hT
       simp only[zFp,zAp,zLa,zLb,zLc,Nat.reduceAdd,zNz] at hK9⊢
       have hw:=Flow.hwD HW6.out hb
       (try simp only[h3] at hK9)
       (try simp only[h4] at hK9)
       go_simp
       go_at_call 74
       refine (ratMul_any (HK6.out.2.below hw) (HRR6.out.2.below hw) (by omega) (by omega) (by have:=HBA.out; omega)).mono ?_
       rintro e w3 ⟨v3,rfl,hi3,hb3⟩
       exact hK9 _ _ hb3 hi3
      case s6=>
       intro L9 xs w' hb hT hX9 hL9 K9 hK9
       clear hT
       simp only[zFp,zAp,zLa,zLb,zLc,Nat.reduceAdd,zNz] at hK9⊢
       have hw:=Flow.hwD HW6.out hb
       go_simp
       exact hK9 _ _ (hb.alloc hb.size _) ((ZR _ _).alloc (Nat.le_refl _) _) trivial (hX9.make1 hb.size (by decide))
      case s7=>
       intro L9 xs w' hb hT hX9 hL9 K9 hK9
       clear hT
       simp only[zFp,zAp,zLa,zLb,zLc,Nat.reduceAdd,zNz] at hK9⊢
       have hw:=Flow.hwD HW6.out hb
       go_simp
       exact hK9 _ _ (hb.alloc hb.size _) ((ZR _ _).alloc (Nat.le_refl _) _) trivial (hX9.make2 hb.size (by decide))
     case fin=>
      intro xs w' hb hT hX9
      have hw:=Flow.hwD HW6.out hb
      have h2:RtIn w' (xs 2) (q*(bnd (boxes D) a).1) (62+(bsz a+3)):=hT 2 (by rfl)
      have h5:RtIn w' (xs 5) (q*(bnd (boxes D) a).2) (62+(bsz a+3)):=hT 5 (by rfl)
      clear hT
      simp only[zFp,zAp,zLa,zLb,zLc,Nat.reduceAdd,zNz,FlowR.restL]
      obtain ⟨ba,bb,e8,e9,hne,hga,hgb,ka,kb⟩:=hX9.both (by rfl) (by rfl)
      obtain ⟨p1',g3,i3,j3,p2',g4,i4,j4,e3⟩:=rt_shape h2
      obtain ⟨p3',g5,i5,j5,p4',g6,i6,j6,e7⟩:=rt_shape h5
      rw[e3] at h2
      rw[e7] at h5
      simp only[e3,e7,e8,e9]
      clear e3 e7 e8 e9 hX9
      have fa0:=ZF ka 0
      have fa1:=ZF ka 1
      have fa2:=ZF ka 2
      have fa3:=ZF ka 3
      obtain ⟨faz0,faz1,faz2,faz3⟩:=cells4 (ZR _ w') ka
      have fb0:=ZF kb 0
      have fb1:=ZF kb 1
      have fb2:=ZF kb 2
      have fb3:=ZF kb 3
      obtain ⟨fbz0,fbz1,fbz2,fbz3⟩:=cells4 (ZR _ w') kb
      have hne2:=hne.symm
      have HAB:=ZH (ZN hne (ZN hga (ZN hgb (ZN ka kb))))
      have H37:=ZH (ZN h2 h5)
      have HW9:=ZH hw
      clear h2 h5 ka kb hga hgb hb hw
      go_upto_region 17 with fail
      obtain ⟨wc,hwc⟩:∃x,x=(((w'.setCell ⟨ba,0,none⟩ (.bool p1')).setCell ⟨ba,1,none⟩ (.slice g3 i3 j3)).setCell ⟨ba,2,none⟩ (.bool p2')).setCell ⟨ba,3,none⟩ (.slice g4 i4 j4):=⟨_,rfl⟩
      rw[←hwc]
      obtain ⟨w8,hw8⟩:∃x,x=(((wc.setCell ⟨bb,0,none⟩ (.bool p3')).setCell ⟨bb,1,none⟩ (.slice g5 i5 j5)).setCell ⟨bb,2,none⟩ (.bool p4')).setCell ⟨bb,3,none⟩ (.slice g6 i6 j6):=⟨_,rfl⟩
      rw[←hw8]
      have hua:But ba w' wc:=by rw[hwc]; exact But.set4 (b:=ba) w' _ _ _ _
      have hub:But bb wc w8:=by rw[hw8]; exact But.set4 (b:=bb) wc _ _ _ _
      have hka:wc.heap[ba]?=some (.cells #[.bool p1',.slice g3 i3 j3,.bool p2',.slice g4 i4 j4] 43 (0,0)):=by rw[hwc]; exact four_set HAB.out.2.2.2.1 _ _ _ _
      have hkb:=(hua.block bb HAB.out.1.symm (ZL HAB.out.2.2.2.2)).trans HAB.out.2.2.2.2
      have hkb8:w8.heap[bb]?=some (.cells #[.bool p3',.slice g5 i5 j5,.bool p4',.slice g6 i6 j6] 43 (0,0)):=by rw[hw8]; exact four_set hkb _ _ _ _
      have hka8:=(hub.block ba HAB.out.1 (ZL hka)).trans hka
      have HKAB:=ZH (ZN hka8 hkb8)
      have HRAB:=ZH (ZN ((H37.out.1.but (nodig4 HAB.out.2.2.2.1) hua).but (nodig4 hkb) hub) ((H37.out.2.but (nodig4 HAB.out.2.2.2.1) hua).but (nodig4 hkb) hub))
      have hl8:=(HW9.out.block bl (ZL HKK6.out.1)).trans HKK6.out.1
      have hh8:=(HW9.out.block bh (ZL HKK6.out.2)).trans HKK6.out.2
      have nla:bl≠ba:=by have:=ZL HKK6.out.1; have:=HAB.out.2.1; omega
      have nlb:bl≠bb:=by have:=ZL HKK6.out.1; have:=HAB.out.2.2.1; omega
      have nha:bh≠ba:=by have:=ZL HKK6.out.2; have:=HAB.out.2.1; omega
      have nhb:bh≠bb:=by have:=ZL HKK6.out.2; have:=HAB.out.2.2.1; omega
      have hl8:=(hua.block bl nla (ZL hl8)).trans hl8
      have hh8:=(hua.block bh nha (ZL hh8)).trans hh8
      have HKLH:=ZH (ZN ((hub.block bl nlb (ZL hl8)).trans hl8) ((hub.block bh nhb (ZL hh8)).trans hh8))
      have hga:w.heap.size≤ba:=Nat.le_trans HB6.out.size HAB.out.2.1
      have hgb:w.heap.size≤bb:=Nat.le_trans HB6.out.size HAB.out.2.2.1
      have HB8:=ZH (show Below w.heap.size w w8 by
       rw[hw8,hwc]
       exact (((((((((HB6.out.trans (HW9.out.mono HB6.out.size)).setCell (p:=⟨ba,0,none⟩) hga _).setCell (p:=⟨ba,1,none⟩) hga _).setCell (p:=⟨ba,2,none⟩) hga _).setCell (p:=⟨ba,3,none⟩) hga _).setCell (p:=⟨bb,0,none⟩) hgb _).setCell (p:=⟨bb,1,none⟩) hgb _).setCell (p:=⟨bb,2,none⟩) hgb _).setCell (p:=⟨bb,3,none⟩) hgb _))
      have HW8:=ZH (ZR w8.heap.size w8)
      clear hwc hw8 hua hub hka hkb hkb8 hka8 hl8 hh8 nla nlb nha nhb hga hgb HW9 H37 HAB hne hne2 HKK6 HRR6 HK6 HB6 HW6 fa0 fa1 fa2 fa3 fb0 fb1 fb2 fb3 faz0 faz1 faz2 faz3 fbz0 fbz1 fbz2 fbz3
      refine FlowR.wp_region_sel (fun a b=>Below a.heap.size a b) (fun a=>ZR _ a) (fun _ _ _ h k=>h.trans (k.mono h.size)) [0,1,2,3,4,5] [false,false,false,false,false,false,false,false] [true,true,true,true,true,true,false,false] (fun i9 v w'=>match i9 with
       | 0=>v=.agg #[.bool p1',.slice g3 i3 j3,.bool p2',.slice g4 i4 j4]
       | 1=>v=.agg #[.bool p3',.slice g5 i5 j5,.bool p4',.slice g6 i6 j6]
       | 2=>RtIn w' v (mn (q*(bnd (boxes D) a).1) (q*(bnd (boxes D) a).2)) (62+(bsz a+3))
       | 3=>v=.agg #[.bool p1',.slice g3 i3 j3,.bool p2',.slice g4 i4 j4]
       | 4=>v=.agg #[.bool p3',.slice g5 i5 j5,.bool p4',.slice g6 i6 j6]
       | _=>RtIn w' v (mx (q*(bnd (boxes D) a).1) (q*(bnd (boxes D) a).2)) (62+(bsz a+3))) rfl rfl (by kernel_rfl) (by kernel_rfl) (by kernel_rfl) (by kernel_rfl) ?st ?steps ?fin
      case st=>
       intro i9 v u1 u2 h hb
       match i9 with
       | 0 | 1 | 3 | 4=>exact h
       | 2=>exact (show RtIn u1 v (mn (q*(bnd (boxes D) a).1) (q*(bnd (boxes D) a).2)) (62+(bsz a+3)) from h).below hb
       | 5 | _+6=>exact (show RtIn u1 v (mx (q*(bnd (boxes D) a).1) (q*(bnd (boxes D) a).2)) (62+(bsz a+3)) from h).below hb
      case steps=>
       refine zSc (zSo rfl ?s0) (zSc (zSo rfl ?s1) (zSc (zSo rfl ?s2) (zSc (zSo rfl ?s3) (zSc (zSo rfl ?s4) (zSc (zSo rfl ?s5) zSn)))))
       case s0 | s3=>
        intro xs w' hb hT K9 hK9
        clear hT
        simp only[zFp,zAp,zLa,zLb,zLc,Nat.reduceAdd,zNz] at hK9⊢
        have hw:=Flow.hwD HW8.out hb
        have kb:=(hw.block ba (ZL HKAB.out.1)).trans HKAB.out.1
        have y0:=ZI kb 0
        have y1:=ZI kb 1
        have y2:=ZI kb 2
        have y3:=ZI kb 3
        clear kb
        simp at y0 y1 y2 y3
        go_simp
        exact hK9 _ _ (ZR _ _) rfl
       case s1 | s4=>
        intro xs w' hb hT K9 hK9
        clear hT
        simp only[zFp,zAp,zLa,zLb,zLc,Nat.reduceAdd,zNz] at hK9⊢
        have hw:=Flow.hwD HW8.out hb
        have kb:=(hw.block bb (ZL HKAB.out.2)).trans HKAB.out.2
        have y0:=ZI kb 0
        have y1:=ZI kb 1
        have y2:=ZI kb 2
        have y3:=ZI kb 3
        clear kb
        simp at y0 y1 y2 y3
        go_simp
        exact hK9 _ _ (ZR _ _) rfl
       case s2=>
        intro xs w' hb hT K9 hK9
        have h0:(xs 0)=.agg #[.bool p1',.slice g3 i3 j3,.bool p2',.slice g4 i4 j4]:=hT 0 (by kernel_rfl)
        have h1:(xs 1)=.agg #[.bool p3',.slice g5 i5 j5,.bool p4',.slice g6 i6 j6]:=hT 1 (by kernel_rfl)
        clear hT
        simp only[zFp,zAp,zLa,zLb,zLc,Nat.reduceAdd,zNz] at hK9⊢
        have hw:=Flow.hwD HW8.out hb
        (try simp only[h0] at hK9)
        (try simp only[h1] at hK9)
        go_simp
        go_at_call 75
        refine (ratMin_any (HRAB.out.1.below hw) (HRAB.out.2.below hw) (by omega) (by have:=HBA.out; omega)).mono ?_
        rintro e w3 ⟨v3,rfl,hi3,hb3⟩
        exact hK9 _ _ hb3 hi3
       case s5=>
        intro xs w' hb hT K9 hK9
        have h3:(xs 3)=.agg #[.bool p1',.slice g3 i3 j3,.bool p2',.slice g4 i4 j4]:=hT 3 (by kernel_rfl)
        have h4:(xs 4)=.agg #[.bool p3',.slice g5 i5 j5,.bool p4',.slice g6 i6 j6]:=hT 4 (by kernel_rfl)
        clear hT
        simp only[zFp,zAp,zLa,zLb,zLc,Nat.reduceAdd,zNz] at hK9⊢
        have hw:=Flow.hwD HW8.out hb
        (try simp only[h3] at hK9)
        (try simp only[h4] at hK9)
        go_simp
        go_at_call 76
        refine (ratMax_any (HRAB.out.1.below hw) (HRAB.out.2.below hw) (by omega) (by have:=HBA.out; omega)).mono ?_
        rintro e w3 ⟨v3,rfl,hi3,hb3⟩
        exact hK9 _ _ hb3 hi3
      case fin=>
       intro xs w' hb hT
       have hw:=Flow.hwD HW8.out hb
       have h2:RtIn w' (xs 2) (mn (q*(bnd (boxes D) a).1) (q*(bnd (boxes D) a).2)) (62+(bsz a+3)):=hT 2 (by rfl)
       have h5:RtIn w' (xs 5) (mx (q*(bnd (boxes D) a).1) (q*(bnd (boxes D) a).2)) (62+(bsz a+3)):=hT 5 (by rfl)
       clear hT
       simp only[zFp,zAp,zLa,zLb,zLc,Nat.reduceAdd,zNz,FlowR.restL,FlowR.orM,Bool.false_or]
       obtain ⟨p5',g7,i7,j7,p6',g8,i8,j8,e5⟩:=rt_shape h2
       obtain ⟨p7',g9,i9,j9,p8',gx,ix,jx,e11⟩:=rt_shape h5
       rw[e5] at h2
       rw[e11] at h5
       simp only[e5,e11]
       clear e5 e11
       have hl9:=(hw.block bl (ZL HKLH.out.1)).trans HKLH.out.1
       have hh9:=(hw.block bh (ZL HKLH.out.2)).trans HKLH.out.2
       have fl0:=ZF hl9 0
       have fl1:=ZF hl9 1
       have fl2:=ZF hl9 2
       have fl3:=ZF hl9 3
       obtain ⟨flz0,flz1,flz2,flz3⟩:=cells4 (ZR _ w') hl9
       have fh0:=ZF hh9 0
       have fh1:=ZF hh9 1
       have fh2:=ZF hh9 2
       have fh3:=ZF hh9 3
       obtain ⟨fhz0,fhz1,fhz2,fhz3⟩:=cells4 (ZR _ w') hh9
       have hne:=HNE.out.1
       have hne2:=HNE.out.1.symm
       have H49:=ZH (ZN h2 (ZN h5 (ZN hl9 hh9)))
       have HW9:=ZH hw
       clear h2 h5 hl9 hh9 hb hw
       go_upto_region 23 with fail
       obtain ⟨wc,hwc⟩:∃x,x=(((w'.setCell ⟨bl,0,none⟩ (.bool p5')).setCell ⟨bl,1,none⟩ (.slice g7 i7 j7)).setCell ⟨bl,2,none⟩ (.bool p6')).setCell ⟨bl,3,none⟩ (.slice g8 i8 j8):=⟨_,rfl⟩
       rw[←hwc]
       obtain ⟨wd,hwd⟩:∃x,x=(((wc.setCell ⟨bh,0,none⟩ (.bool p7')).setCell ⟨bh,1,none⟩ (.slice g9 i9 j9)).setCell ⟨bh,2,none⟩ (.bool p8')).setCell ⟨bh,3,none⟩ (.slice gx ix jx):=⟨_,rfl⟩
       rw[←hwd]
       have hua:But bl w' wc:=by rw[hwc]; exact But.set4 (b:=bl) w' _ _ _ _
       have hub:But bh wc wd:=by rw[hwd]; exact But.set4 (b:=bh) wc _ _ _ _
       have hka:wc.heap[bl]?=some (.cells #[.bool p5',.slice g7 i7 j7,.bool p6',.slice g8 i8 j8] 43 (0,0)):=by rw[hwc]; exact four_set H49.out.2.2.1 _ _ _ _
       have hkb:=(hua.block bh HNE.out.1.symm (ZL H49.out.2.2.2)).trans H49.out.2.2.2
       have hkb8:wd.heap[bh]?=some (.cells #[.bool p7',.slice g9 i9 j9,.bool p8',.slice gx ix jx] 43 (0,0)):=by rw[hwd]; exact four_set hkb _ _ _ _
       have hka8:=(hub.block bl HNE.out.1 (ZL hka)).trans hka
       have r1:=((H49.out.1.but (nodig4 H49.out.2.2.1) hua).but (nodig4 hkb) hub).more (show 62+(bsz a+3)≤bsz (.scale q a) by have:=HBA.out; omega)
       have r2:=((H49.out.2.1.but (nodig4 H49.out.2.2.1) hua).but (nodig4 hkb) hub).more (show 62+(bsz a+3)≤bsz (.scale q a) by have:=HBA.out; omega)
       have hbs:bnd (boxes D) (.scale q a)=(mn (q*(bnd (boxes D) a).1) (q*(bnd (boxes D) a).2),mx (q*(bnd (boxes D) a).1) (q*(bnd (boxes D) a).2)):=by rw[bnd]
       have HKD:=ZH (ZN hka8 hkb8)
       have HRRF:=ZH (show RtIn wd (.agg #[.bool p5',.slice g7 i7 j7,.bool p6',.slice g8 i8 j8]) (bnd (boxes D) (.scale q a)).1 (bsz (.scale q a))∧RtIn wd (.agg #[.bool p7',.slice g9 i9 j9,.bool p8',.slice gx ix jx]) (bnd (boxes D) (.scale q a)).2 (bsz (.scale q a)) from by rw[hbs]; exact ⟨r1,r2⟩)
       have HBD:=ZH (show Below w.heap.size w wd by
        rw[hwd,hwc]
        exact (((((((((HB8.out.trans (HW9.out.mono HB8.out.size)).setCell (p:=⟨bl,0,none⟩) HNE.out.2.2.2.1 _).setCell (p:=⟨bl,1,none⟩) HNE.out.2.2.2.1 _).setCell (p:=⟨bl,2,none⟩) HNE.out.2.2.2.1 _).setCell (p:=⟨bl,3,none⟩) HNE.out.2.2.2.1 _).setCell (p:=⟨bh,0,none⟩) HNE.out.2.2.2.2 _).setCell (p:=⟨bh,1,none⟩) HNE.out.2.2.2.2 _).setCell (p:=⟨bh,2,none⟩) HNE.out.2.2.2.2 _).setCell (p:=⟨bh,3,none⟩) HNE.out.2.2.2.2 _))
       clear hwc hwd hua hub hka hkb hkb8 hka8 r1 r2 hbs hne hne2 fl0 fl1 fl2 fl3 fh0 fh1 fh2 fh3 flz0 flz1 flz2 flz3 fhz0 fhz1 fhz2 fhz3
       have hl9:=HKD.out.1
       have hh9:=HKD.out.2
       have fl0:=ZF hl9 0
       have fl1:=ZF hl9 1
       have fl2:=ZF hl9 2
       have fl3:=ZF hl9 3
       obtain ⟨flz0,flz1,flz2,flz3⟩:=cells4 (ZR _ wd) hl9
       have fh0:=ZF hh9 0
       have fh1:=ZF hh9 1
       have fh2:=ZF hh9 2
       have fh3:=ZF hh9 3
       obtain ⟨fhz0,fhz1,fhz2,fhz3⟩:=cells4 (ZR _ wd) hh9
       have hne:=HNE.out.1
       have hne2:=HNE.out.1.symm
       obtain ⟨wc,hwc⟩:∃x,x=(((wd.setCell ⟨bl,0,none⟩ (.bool p5')).setCell ⟨bl,1,none⟩ (.slice g7 i7 j7)).setCell ⟨bl,2,none⟩ (.bool p6')).setCell ⟨bl,3,none⟩ (.slice g8 i8 j8):=⟨_,rfl⟩
       have hua:But bl wd wc:=by rw[hwc]; exact But.set4 (b:=bl) wd _ _ _ _
       have hkb:=(hua.block bh HNE.out.1.symm (ZL hh9)).trans hh9
       have hub:=But.set4 (b:=bh) wc (.bool p7') (.slice g9 i9 j9) (.bool p8') (.slice gx ix jx)
       have r1:=((HRRF.out.1.but (nodig4 hl9) hua).but (nodig4 hkb) hub).below (ZR _ _).drew
       have r2:=((HRRF.out.2.but (nodig4 hl9) hua).but (nodig4 hkb) hub).below (ZR _ _).drew
       rw[hwc] at r1 r2
       have HF:=ZH (ZN r1 r2)
       have HFB:=ZH (show Below w.heap.size w _ from (((((((((HBD.out.setCell (p:=⟨bl,0,none⟩) HNE.out.2.2.2.1 (.bool p5')).setCell (p:=⟨bl,1,none⟩) HNE.out.2.2.2.1 (.slice g7 i7 j7)).setCell (p:=⟨bl,2,none⟩) HNE.out.2.2.2.1 (.bool p6')).setCell (p:=⟨bl,3,none⟩) HNE.out.2.2.2.1 (.slice g8 i8 j8)).setCell (p:=⟨bh,0,none⟩) HNE.out.2.2.2.2 (.bool p7')).setCell (p:=⟨bh,1,none⟩) HNE.out.2.2.2.2 (.slice g9 i9 j9)).setCell (p:=⟨bh,2,none⟩) HNE.out.2.2.2.2 (.bool p8')).setCell (p:=⟨bh,3,none⟩) HNE.out.2.2.2.2 (.slice gx ix jx))).drew)
       clear hl9 hh9 hua hub hkb r1 r2 hwc
       go_region
       go_wp2_with fail
       exact bodyPost_ret (v:=.tuple #[.agg #[.bool p5',.slice g7 i7 j7,.bool p6',.slice g8 i8 j8],.agg #[.bool p7',.slice g9 i9 j9,.bool p8',.slice gx ix jx],.int .i64 0]) (by simp[results,Tryz.results26,go_sem,flz0,flz1,flz2,flz3,fhz0,fhz1,fhz2,fhz3]) rfl ⟨_,_,rfl,HF.out.1,HF.out.2,HFB.out⟩
    ·have e2:(o==2)=false:=by simpa using h2
     have h5:o≠5:=by
      have h1:=HFI.out.noabs
      have h2:=HN.out.2.2.2.2.2
      intro e
      cases x with
      | abs a=>rw[NoAbs] at h1; exact h1
      | _=>rw[e] at h2; simp[opG] at h2
     have e5:(o==5)=false:=by simpa using h5
     have hcb:combTo o (boxes D) (argG x) (argG x).length=bnd (boxes D) x:=by
      have h3:=HN.out.2.2.2.2.2
      have h0:=HOP.out
      cases x with
      | form f=>exact absurd h3 h0
      | scale q a=>exact absurd h3 h2
      | abs a=>exact absurd h3 h5
      | add l=>rw[h3]; exact comb_add _ _
      | min l=>rw[h3]; exact comb_min _ _
      | max l=>rw[h3]; exact comb_max _ _
     have hsz:2+bszs (argG x)≤bsz x:=asz_le (by rw[←HN.out.2.2.2.2.2]; exact HOP.out)
     rw[hcb] at HRR9
     have HRRF:=ZH (ZN (HRR9.out.1.more hsz) (HRR9.out.2.more hsz))
     clear h2 h5 hcb hsz HW9 HKX9 HRR9
     go_upto_region 23 with fail
     clear x0 x1 x2 x3 x4
     have hl9:=HKK9.out.1
     have hh9:=HKK9.out.2
     have fl0:=ZF hl9 0
     have fl1:=ZF hl9 1
     have fl2:=ZF hl9 2
     have fl3:=ZF hl9 3
     obtain ⟨flz0,flz1,flz2,flz3⟩:=cells4 (ZR _ wr) hl9
     have fh0:=ZF hh9 0
     have fh1:=ZF hh9 1
     have fh2:=ZF hh9 2
     have fh3:=ZF hh9 3
     obtain ⟨fhz0,fhz1,fhz2,fhz3⟩:=cells4 (ZR _ wr) hh9
     have hne:=HNE.out.1
     have hne2:=HNE.out.1.symm
     obtain ⟨wc,hwc⟩:∃x,x=(((wr.setCell ⟨bl,0,none⟩ (.bool p1)).setCell ⟨bl,1,none⟩ (.slice a1 c1 l1)).setCell ⟨bl,2,none⟩ (.bool p2)).setCell ⟨bl,3,none⟩ (.slice a2 c2 l2):=⟨_,rfl⟩
     have hua:But bl wr wc:=by rw[hwc]; exact But.set4 (b:=bl) wr _ _ _ _
     have hkb:=(hua.block bh HNE.out.1.symm (ZL hh9)).trans hh9
     have hub:=But.set4 (b:=bh) wc (.bool t1) (.slice b1 d1 m1) (.bool t2) (.slice b2 d2 m2)
     have r1:=((HRRF.out.1.but (nodig4 hl9) hua).but (nodig4 hkb) hub).below (ZR _ _).drew
     have r2:=((HRRF.out.2.but (nodig4 hl9) hua).but (nodig4 hkb) hub).below (ZR _ _).drew
     rw[hwc] at r1 r2
     have HF:=ZH (ZN r1 r2)
     have HFB:=ZH (show Below w.heap.size w _ from (((((((((HB9.out.setCell (p:=⟨bl,0,none⟩) HNE.out.2.2.2.1 (.bool p1)).setCell (p:=⟨bl,1,none⟩) HNE.out.2.2.2.1 (.slice a1 c1 l1)).setCell (p:=⟨bl,2,none⟩) HNE.out.2.2.2.1 (.bool p2)).setCell (p:=⟨bl,3,none⟩) HNE.out.2.2.2.1 (.slice a2 c2 l2)).setCell (p:=⟨bh,0,none⟩) HNE.out.2.2.2.2 (.bool t1)).setCell (p:=⟨bh,1,none⟩) HNE.out.2.2.2.2 (.slice b1 d1 m1)).setCell (p:=⟨bh,2,none⟩) HNE.out.2.2.2.2 (.bool t2)).setCell (p:=⟨bh,3,none⟩) HNE.out.2.2.2.2 (.slice b2 d2 m2))).drew)
     clear hl9 hh9 hua hub hkb r1 r2 hwc
     go_region
     go_wp2_with fail
     exact bodyPost_ret (v:=.tuple #[.agg #[.bool p1,.slice a1 c1 l1,.bool p2,.slice a2 c2 l2],.agg #[.bool t1,.slice b1 d1 m1,.bool t2,.slice b2 d2 m2],.int .i64 0]) (by simp[results,Tryz.results26,go_sem,flz0,flz1,flz2,flz3,fhz0,fhz1,fhz2,fhz3]) rfl ⟨_,_,rfl,HF.out.1,HF.out.2,HFB.out⟩
theorem mBounds_any {n:Nat} (hn:n≤900) {D:List Dm} (hD:∀j,j<D.length→(-1000000000≤(D.getD j Dm.none).nominal∧(D.getD j Dm.none).nominal≤1000000000)∧(-1000000000≤(D.getD j Dm.none).lower∧(D.getD j Dm.none).lower≤1000000000)∧(-1000000000≤(D.getD j Dm.none).upper∧(D.getD j Dm.none).upper≤1000000000)):∀(m:Nat) (x:GEx),dep x≤m→BndFine n D.length x→∀(w:World) (v:Value) (ad:Option Addr) (cd:Nat),Glob w→DimsIn w ad cd D→ExIn w (raw x) v→Calls Tryz.prog 26 #[v,.slice ad D.length cd] w (BndPost w (boxes D) x)
 | 0,x,hm,_=>by cases x<;>rw[dep] at hm<;>omega
 | m+1,x,hm,hf=>fun w v ad cd hg hd hx=>mBounds_step hn hD x (fun j hj=>mBounds_any hn hD m _ (by have:=arg_dep hj; omega) (hf.arg hj)) hf hg hd hx
end Go.Proofs.YtdgimcmappmjdaaGreatDoor

