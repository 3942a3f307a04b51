/- Equality of expressions as they are written; their depth. -/
import Derived.Test.YtdcaaehapdhckaaGreatDoorK1
import Derived.Test.YtdcaaehapdhckaaGreatDoorK6
import Derived.Test.YtdcaaehapdhckaaGreatDoorFlow2M
import Derived.Test.YtdcaaehapdhckaaGreatDoorKU
import Derived.Test.YtdcaaehapdhckaaGreatDoorKA
import Derived.Deep.OwnRows
import Derived.Test.YtdcaaehapdhckaaGreatDoorKW
set_option linter.unusedSimpArgs false
set_option linter.unusedVariables false
set_option maxRecDepth 100000
namespace Go.Proofs.YtdcaaehapdhckaaGreatDoor
open Go.RowKit Go.Num Go.Flow
set_option maxHeartbeats 4000000

mutual
def sameE : Ex→Ex→Bool
 | .mk o c t f a,.mk o' c' t' f' a'=>(o==o')&&((f==f')&&((c==c')&&(decide (t=t')&&sameL a a')))
def sameL : List Ex→List Ex→Bool
 | [],[]=>true
 | x::l,y::m=>sameE x y&&sameL l m
 | [],_::_=>false
 | _::_,[]=>false
end
mutual
theorem sameE_iff : ∀(x y:Ex),sameE x y=true↔x=y
 | .mk o c t f a,.mk o' c' t' f' a'=>by
  rw[sameE,Bool.and_eq_true,Bool.and_eq_true,Bool.and_eq_true,Bool.and_eq_true,beq_iff_eq,beq_iff_eq,beq_iff_eq,decide_eq_true_eq,sameL_iff a a',Ex.mk.injEq]
  constructor
  ·rintro ⟨h1,h2,h3,h4,h5⟩; exact ⟨h1,h3,h4,h2,h5⟩
  ·rintro ⟨h1,h3,h4,h2,h5⟩; exact ⟨h1,h2,h3,h4,h5⟩
theorem sameL_iff : ∀(l m:List Ex),sameL l m=true↔l=m
 | [],[]=>by rw[sameL]; simp
 | x::l,y::m=>by rw[sameL,Bool.and_eq_true,sameE_iff x y,sameL_iff l m,List.cons.injEq]
 | [],_::_=>by rw[sameL]; simp
 | _::_,[]=>by rw[sameL]; simp
end
theorem sameL_at : ∀{l m:List Ex},l.length=m.length→(sameL l m=true↔∀j,j<l.length→sameE (l.getD j Ex.none) (m.getD j Ex.none)=true)
 | [],[],_=>by rw[sameL]; simp
 | x::l,y::m,h=>by
  rw[sameL,Bool.and_eq_true,sameL_at (by simpa using h)]
  constructor
  ·rintro ⟨h1,h2⟩ j hj
   cases j with
   | zero=>exact h1
   | succ j=>exact h2 j (by simpa using hj)
  ·exact fun h3=>⟨h3 0 (by simp),fun j hj=>h3 (j+1) (by simpa using hj)⟩
 | [],_::_,h=>by simp at h
 | _::_,[],h=>by simp at h
theorem sameL_off {l m:List Ex} (h:l.length≠m.length):sameL l m=false:=by
 cases hs:sameL l m with
 | false=>rfl
 | true=>exact absurd (congrArg List.length ((sameL_iff l m).1 hs)) h
mutual
def depE : Ex→Nat
 | .mk _ _ _ _ a=>depL a+1
def depL : List Ex→Nat
 | []=>0
 | x::l=>Nat.max (depE x) (depL l)
end
theorem depE_eq (x:Ex):depE x=depL x.a+1:=by cases x; rw[depE]; rfl
theorem depL_at : ∀{l:List Ex} {j:Nat},j<l.length→depE (l.getD j Ex.none)≤depL l
 | [],j,h=>by simp at h
 | x::l,0,_=>by rw[depL]; exact Nat.le_max_left _ _
 | x::l,j+1,h=>by
  rw[depL]
  exact Nat.le_trans (depL_at (l:=l) (by simpa using h)) (Nat.le_max_right _ _)
mutual
def TermsE (n:Nat):Ex→Prop
 | .mk _ _ t _ a=>t.length≤n∧TermsL n a
def TermsL (n:Nat):List Ex→Prop
 | []=>True
 | x::l=>TermsE n x∧TermsL n l
end
theorem termsE_eq {n:Nat} (x:Ex):TermsE n x↔x.t.length≤n∧TermsL n x.a:=by cases x; rw[TermsE]; exact Iff.rfl
theorem termsL_at {n:Nat}:∀{l:List Ex} {j:Nat},TermsL n l→j<l.length→TermsE n (l.getD j Ex.none)
 | [],j,_,h=>by simp at h
 | x::l,0,h,_=>by rw[TermsL] at h; exact h.1
 | x::l,j+1,h,hj=>by
  rw[TermsL] at h
  exact termsL_at (l:=l) h.2 (by simpa using hj)
open List renaming setIfInBounds_toArray → zLa, set_cons_zero → zLb, set_cons_succ → zLc
open FlowR renaming putSel → zFp
open Act renaming put → zAp
open Nat renaming zero_add → zNz
open Flow.Steps renaming cons → zSc, nil → zSn
open FlowR.Step renaming of → zSo
set_option maxHeartbeats 8000000
theorem psame_step (x y:Ex) (ih:∀j,j<x.a.length→j<y.a.length→∀(w:World) (vx vy:Value),ExIn w (x.a.getD j Ex.none) vx→ExIn w (y.a.getD j Ex.none) vy→Calls Tryz.prog 11 #[vx,vy] w fun e w'=>e=.returned (.bool (sameE (x.a.getD j Ex.none) (y.a.getD j Ex.none)))∧Below w.heap.size w w')
  {w:World} {vx vy:Value} (hx:ExIn w x vx) (hy:ExIn w y vy):Calls Tryz.prog 11 #[vx,vy] w fun e w'=>e=.returned (.bool (sameE x y))∧Below w.heap.size w w':=by
 obtain ⟨tx,ax,cx,rfl,htx,hax⟩:=hx.out
 obtain ⟨ty,ay,cy,rfl,hty,hay⟩:=hy.out
 obtain ⟨tax,tcx,rfl,p1,p2,p3⟩:=id htx
 obtain ⟨tay,tcy,rfl,q1,q2,q3⟩:=id hty
 obtain ⟨_,_,ee,r1,r2,r3⟩:=id hax
 simp only[Value.slice.injEq] at ee
 obtain ⟨rfl,-,rfl⟩:=ee
 obtain ⟨_,_,ee,s1,s2,s3⟩:=id hay
 simp only[Value.slice.injEq] at ee
 obtain ⟨rfl,-,rfl⟩:=ee
 have hsame:sameE x y=((x.op==y.op)&&((x.f==y.f)&&((x.c==y.c)&&(decide (x.t=y.t)&&sameL x.a y.a)))):=by cases x; cases y; rw[sameE]; rfl
 obtain ⟨sx,hsx⟩:∃s:ByteArray,s=⟨x.c.toArray⟩:=⟨_,rfl⟩
 obtain ⟨sy,hsy⟩:∃s:ByteArray,s=⟨y.c.toArray⟩:=⟨_,rfl⟩
 obtain ⟨fx,hfx⟩:∃s:ByteArray,s=⟨x.f.toArray⟩:=⟨_,rfl⟩
 obtain ⟨fy,hfy⟩:∃s:ByteArray,s=⟨y.f.toArray⟩:=⟨_,rfl⟩
 obtain ⟨n,hn⟩:∃q,q=x.t.length:=⟨_,rfl⟩
 obtain ⟨m,hm⟩:∃q,q=y.t.length:=⟨_,rfl⟩
 obtain ⟨an,han⟩:∃q,q=x.a.length:=⟨_,rfl⟩
 obtain ⟨am,ham⟩:∃q,q=y.a.length:=⟨_,rfl⟩
 obtain ⟨ox,hox⟩:∃q,q=x.op:=⟨_,rfl⟩
 obtain ⟨oy,hoy⟩:∃q,q=y.op:=⟨_,rfl⟩
 unfold maxLen at p2 q2 r2 s2
 rw[←hn] at p1 p3⊢
 rw[←hm] at q1 q3⊢
 rw[←han] at r1 r3⊢
 rw[←ham] at s1 s3⊢
 rw[←hsx,←hsy,←hfx,←hfy,←hox,←hoy]
 have e2:(fx.toList==fy.toList)=(x.f==y.f):=by rw[hfx,hfy,toArray_list,toArray_list]
 have e3:(sx.toList==sy.toList)=(x.c==y.c):=by rw[hsx,hsy,toArray_list,toArray_list]
 obtain ⟨RT,hRT⟩:∃q,q=decide (x.t=y.t):=⟨_,rfl⟩
 obtain ⟨RA,hRA⟩:∃q,q=sameL x.a y.a:=⟨_,rfl⟩
 obtain ⟨ANS,hANS⟩:∃q,q=sameE x y:=⟨_,rfl⟩
 rw[←hRT,←hRA,←e2,←e3,←hox,←hoy,←hANS] at hsame
 rw[←hANS]
 obtain ⟨wa,bx,by',hwa,hbx,hby,hal,k0,k1⟩:=new_two w #[.int .i64 ox,.string sx,.slice tax n tcx,.string fx,.slice ax an cx] #[.int .i64 oy,.string sy,.slice tay m tcy,.string fy,.slice ay am cy] 30 30
 have HE:=ZH hsame
 have HRT:=ZH hRT
 have HRA:=ZH hRA
 have HN:=ZH (ZN hn (ZN hm (ZN han ham)))
 have HP:=ZH (ZN p3 (ZN q3 (ZN r3 s3)))
 have HIH:=ZH ih
 have HAL:=ZH hal
 have HK:=ZH (ZN k0 k1)
 have HW:=ZH (ZN hwa (ZN hbx hby))
 obtain ⟨x0,x1,x2,x3,x4⟩:=cells5 (ZR _ wa) k0
 obtain ⟨y0,y1,y2,y3,y4⟩:=cells5 (ZR _ wa) k1
 clear hwa hbx hby hal k0 k1 htx hty hax hay hn hm han ham hsx hsy hfx hfy hox hoy e2 e3 hRT hRA hx hy hANS hsame p3 q3 r3 s3 ih
 go_enter Tryz.func11,Tryz.ntmps11
 go_upto_region 1 with fail
 rw[←HW.out.1,←HW.out.2.2,←HW.out.2.1]
 clear HW
 have FIN:=ZH (show ANS=false→(Ending.returned (.bool false)=Ending.returned (.bool ANS)) from fun h=>by rw[h])
 rcases hq1:(ox==oy) with _ | _
 ·have g1:(ox != oy)=true:=by rw[bne,hq1]; rfl
  have HF:=ZH (ZN (FIN.out (by rw[HE.out,hq1]; rfl)) HAL.out)
  go_wp2_with fail
  go_ret
  exact HF.out
 have q1:=hq1
 have g1:(ox != oy)=false:=by rw[bne,hq1]; rfl
 clear hq1
 rcases hq2:(fx.toList==fy.toList) with _ | _
 ·have g2:(fx.toList != fy.toList)=true:=by rw[bne,hq2]; rfl
  have HF:=ZH (ZN (FIN.out (by rw[HE.out,hq2,q1]; rfl)) HAL.out)
  go_wp2_with fail
  go_ret
  exact HF.out
 have q2:=hq2
 have g2:(fx.toList != fy.toList)=false:=by rw[bne,hq2]; rfl
 clear hq2
 by_cases q3:an=am
 case neg=>
  have g3:((an:Int) != (am:Int))=true:=by simp; omega
  have HF:=ZH (ZN (FIN.out (by rw[HE.out,HRA.out,sameL_off (by rw[←HN.out.2.2.1,←HN.out.2.2.2]; exact q3),Bool.and_false,Bool.and_false,Bool.and_false,Bool.and_false])) HAL.out)
  go_wp2_with fail
  go_ret
  exact HF.out
 have g3:((an:Int) != (am:Int))=false:=by simp; omega
 rcases hq4:(sx.toList==sy.toList) with _ | _
 ·have g4:(sx.toList != sy.toList)=true:=by rw[bne,hq4]; rfl
  have HF:=ZH (ZN (FIN.out (by rw[HE.out,hq4,q1,q2]; rfl)) HAL.out)
  go_wp2_with fail
  go_ret
  exact HF.out
 have q4:=hq4
 have g4:(sx.toList != sy.toList)=false:=by rw[bne,hq4]; rfl
 clear hq4
 by_cases q5:n=m
 case neg=>
  have g5:((n:Int) != (m:Int))=true:=by simp; omega
  have HF:=ZH (ZN (FIN.out (by rw[HE.out,HRT.out,ZU (fun h=>q5 (by rw[HN.out.1,HN.out.2.1,h])),Bool.false_and,Bool.and_false,Bool.and_false,Bool.and_false])) HAL.out)
  go_wp2_with fail
  go_ret
  exact HF.out
 have g5:((n:Int) != (m:Int))=false:=by simp; omega
 have HA:=ZH (show ANS=(RT&&RA) by rw[HE.out,q1,q2,q4]; rfl)
 obtain rfl:an=am:=q3
 obtain rfl:n=m:=q5
 go_wp2_with fail
 clear q1 q2 q4 g1 g2 g3 g4 g5 x0 x1 x2 x3 x4 y0 y1 y2 y3 y4
 go_loopg [5] n (fun gk v wr=>∃i:Nat,i+gk=n∧v=.int .i64 i∧Hid (∀j,j<i→x.t.getD j (0,[])=y.t.getD j (0,[]))∧Hid (Below wa.heap.size wa wr))
 case atStart=>exact ⟨0,by omega,rfl,ZH (fun j hj=>absurd hj (by omega)),ZH (ZR _ _)⟩
 case round=>
  obtain ⟨i,hin,rfl,hall,hbw⟩:=hrel
  obtain ⟨x0,x1,x2,x3,x4⟩:=cells5 hbw.out HK.out.1
  obtain ⟨y0,y1,y2,y3,y4⟩:=cells5 hbw.out HK.out.2
  by_cases hlt:i<n
  ·have e1:((i:Int)<(n:Int))=True:=eq_true (by omega)
   obtain ⟨b1,o1,rfl,-,hc1⟩:=HP.out.1 (by omega)
   obtain ⟨b2,o2,rfl,-,hc2⟩:=HP.out.2.1 (by omega)
   obtain ⟨u,hu⟩:∃q,q=x.t.getD i (0,[]):=⟨_,rfl⟩
   obtain ⟨v,hv⟩:∃q,q=y.t.getD i (0,[]):=⟨_,rfl⟩
   have h1:=hc1 i (by have:=HN.out.1; omega)
   have h2:=hc2 i (by have:=HN.out.2.1; omega)
   rw[←hu] at h1
   rw[←hv] at h2
   have hwr:=HAL.out.trans (hbw.out.mono HAL.out.size)
   have t0:=ZJ hwr h1.1
   have t1:=ZJ hwr h1.2
   have s0:=ZJ hwr h2.1
   have s1':=ZJ hwr h2.2
   have hi0:(0:Int)≤(i:Int):=by omega
   have hi1:(i:Int)<(n:Int):=by omega
   have HXY:=ZH (ZN hu hv)
   have HLT:=ZH (ZN hlt hin)
   clear hu hv h1 h2 hc1 hc2 hlt hin hwr
   have hev:=neq_term u.1 v.1 ⟨u.2.toArray⟩ ⟨v.2.toArray⟩
   have hvg:=term_guard
   rw[toArray_list,toArray_list] at hev
   obtain ⟨q,hq⟩:∃q,q=((u.1==v.1)&&(u.2==v.2)):=⟨_,rfl⟩
   rw[←hq] at hev
   have HQ:=ZH hq
   clear hq
   go_upto_region 6 with fail
   go_quiet (fail)
   cases q with
   | true=>
    have hxy:u=v:=eqTermZ_iff.1 HQ.out.symm
    have HNX:=ZH (show ∀j,j<i+1→x.t.getD j (0,[])=y.t.getD j (0,[]) from fun j hj=>by
     by_cases h:j<i
     ·exact hall.out j h
     ·obtain rfl:j=i:=by omega
      rw[←HXY.out.1,←HXY.out.2,hxy])
    have HBN:=ZH (fun nq:Nat=>hbw.out.trans ((below_drawn wr nq).mono hbw.out.size))
    clear hxy hall hbw x0 x1 x2 x3 x4 y0 y1 y2 y3 y4 t0 t1 s0 s1' hev
    go_wp2_with fail
    go_roundg (n-(i+1))
    case measure=>have:=HLT.out; omega
    case rel=>exact ⟨i+1,by have:=HLT.out; omega,by first | (congr 1; done) | (congr 1; exact IntWalk.wrap64_in ((i:Int)+1) (by have:=HLT.out; omega)),HNX,ZH (HBN.out _)⟩
   | false=>
    have hR:RT=false:=by
     rw[HRT.out,decide_eq_false_iff_not]
     intro he
     have:eqTermZ u v=true:=eqTermZ_iff.2 (by rw[HXY.out.1,HXY.out.2,he])
     unfold eqTermZ at this
     rw[←HQ.out] at this
     cases this
    have HF:=ZH (ZN (FIN.out (by rw[HA.out,hR]; rfl)) (fun nq:Nat=>HAL.out.trans ((hbw.out.trans ((below_drawn wr nq).mono hbw.out.size)).mono HAL.out.size)))
    clear hR hall hbw hev
    go_wp2_with fail
    go_ret
    exact ⟨HF.out.1,HF.out.2 _⟩
  ·have e1:((i:Int)<(n:Int))=False:=eq_false (by omega)
   obtain rfl:i=n:=by omega
   have hR:RT=true:=by
    rw[HRT.out,decide_eq_true_iff]
    exact same_listsZ (0,[]) (by rw[←HN.out.1,←HN.out.2.1]) (fun j hj=>hall.out j (by rw[HN.out.1]; exact hj))
   have HA2:=ZH (show ANS=RA by rw[HA.out,hR]; rfl)
   have HB2:=ZH hbw.out
   clear hR hall hbw HA hlt hin
   go_wp2_with fail
   clear e1 x0 x1 x2 x3 x4 y0 y1 y2 y3 y4
   go_loopg [6] an (fun gk v wr=>∃i:Nat,i+gk=an∧v=.int .i64 i∧Hid (∀j,j<i→sameE (x.a.getD j Ex.none) (y.a.getD j Ex.none)=true)∧Hid (Below wa.heap.size wa wr))
   case atStart=>exact ⟨0,by omega,rfl,ZH (fun j hj=>absurd hj (by omega)),HB2⟩
   case round=>
    obtain ⟨j,hjn,rfl,hall,hbw⟩:=hrel
    obtain ⟨x0,x1,x2,x3,x4⟩:=cells5 hbw.out HK.out.1
    obtain ⟨y0,y1,y2,y3,y4⟩:=cells5 hbw.out HK.out.2
    by_cases hlt:j<an
    ·have e1:((j:Int)<(an:Int))=True:=eq_true (by omega)
     obtain ⟨g1,o1,rfl,-,hc1⟩:=HP.out.2.2.1 (by omega)
     obtain ⟨g2,o2,rfl,-,hc2⟩:=HP.out.2.2.2 (by omega)
     have hj1:j<x.a.length:=by have:=HN.out.2.2.1; omega
     have hj2:j<y.a.length:=by have:=HN.out.2.2.2; omega
     obtain ⟨utv,ua,uc,c0,c1',c2',c3,c4,htk,hak⟩:=hc1.at (j:=j) hj1
     obtain ⟨vtv,va,vc,d0,d1',d2',d3,d4,htl,hal'⟩:=hc2.at (j:=j) hj2
     have hihk:=HIH.out j hj1 hj2
     obtain ⟨X,hX⟩:∃X,X=x.a.getD j Ex.none:=⟨_,rfl⟩
     obtain ⟨Y,hY⟩:∃Y,Y=y.a.getD j Ex.none:=⟨_,rfl⟩
     obtain ⟨q,hq⟩:∃q,q=sameE X Y:=⟨_,rfl⟩
     rw[←hX] at c0 c1' c3 c4 htk hak hihk
     rw[←hY] at d0 d1' d3 d4 htl hal' hihk
     rw[←hq] at hihk
     obtain ⟨uta,utc,rfl,-⟩:=id htk
     obtain ⟨uo,hox2⟩:∃q,q=X.op:=⟨_,rfl⟩
     obtain ⟨us0,hsx2⟩:∃s:ByteArray,s=⟨X.c.toArray⟩:=⟨_,rfl⟩
     obtain ⟨us1,hfx2⟩:∃s:ByteArray,s=⟨X.f.toArray⟩:=⟨_,rfl⟩
     obtain ⟨utn,htn2⟩:∃q,q=X.t.length:=⟨_,rfl⟩
     obtain ⟨uan,han2⟩:∃q,q=X.a.length:=⟨_,rfl⟩
     have hxx:=ExIn.of htk hak
     rw[←hox2,←hsx2,←hfx2,←htn2,←han2] at hxx
     rw[←hox2] at c0
     rw[←hsx2] at c1'
     rw[←htn2] at c2'
     rw[←hfx2] at c3
     rw[←han2] at c4
     obtain ⟨vta,vtc,rfl,-⟩:=id htl
     obtain ⟨vo,hoy2⟩:∃q,q=Y.op:=⟨_,rfl⟩
     obtain ⟨vs0,hsy2⟩:∃s:ByteArray,s=⟨Y.c.toArray⟩:=⟨_,rfl⟩
     obtain ⟨vs1,hfy2⟩:∃s:ByteArray,s=⟨Y.f.toArray⟩:=⟨_,rfl⟩
     obtain ⟨vtn,hvn2⟩:∃q,q=Y.t.length:=⟨_,rfl⟩
     obtain ⟨van,hbn2⟩:∃q,q=Y.a.length:=⟨_,rfl⟩
     have hyy:=ExIn.of htl hal'
     rw[←hoy2,←hsy2,←hfy2,←hvn2,←hbn2] at hyy
     rw[←hoy2] at d0
     rw[←hsy2] at d1'
     rw[←hvn2] at d2'
     rw[←hfy2] at d3
     rw[←hbn2] at d4
     have hwr:=HAL.out.trans (hbw.out.mono HAL.out.size)
     have HCX:=ZH (ZN (ZJ hwr c0) (ZN (ZJ hwr c1') (ZN (ZJ hwr c2') (ZN (ZJ hwr c3) (ZJ hwr c4)))))
     have HCY:=ZH (ZN (ZJ hwr d0) (ZN (ZJ hwr d1') (ZN (ZJ hwr d2') (ZN (ZJ hwr d3) (ZJ hwr d4)))))
     have HIK:=ZH (fun (W:World) (hW:Below wr.heap.size wr W)=>hihk W _ _ ((hxx.below hwr).below hW) ((hyy.below hwr).below hW))
     have HQ:=ZH (ZN hq (ZN hX hY))
     have HLT:=ZH (ZN hlt hjn)
     have HWR:=ZH (ZR wr.heap.size wr)
     have HBW:=ZH hbw.out
     have HALL:=ZH hall.out
     have hi0:(0:Int)≤(j:Int):=by omega
     have hi1:(j:Int)<(an:Int):=by omega
     have HKR:=ZH (ZN ((hbw.out.block bx (ZL HK.out.1)).trans HK.out.1) ((hbw.out.block by' (ZL HK.out.2)).trans HK.out.2))
     clear c0 c1' c2' c3 c4 d0 d1' d2' d3 d4 htk hak htl hal' hihk hq hX hY hxx hyy hwr hlt hjn hbw hall hj1 hj2 hc1 hc2 x0 x1 x2 x3 y0 y1 y2 y3 hox2 hoy2 hsx2 hsy2 hfx2 hfy2 htn2 hvn2 han2 hbn2
     go_upto_region 11 with fail
     clear e1 x4 y4
     refine FlowR.wp_region_sel (fun a b=>Below a.heap.size a b) (fun a=>ZR _ a) (fun _ _ _ h k=>h.trans (k.mono h.size)) [0,1,2,3,4,5,6,7,8,9,10,11] [false,false,false,false,false,false,false,false,false,false,false,false] [true,true,true,true,true,true,true,true,true,true,true,true] (fun i9 v w'=>match i9 with
      | 0=>v=.pointer (some ⟨bx,4,none⟩)
      | 1=>v=.slice (some ⟨g1,o1,none⟩) an cx
      | 2=>v=.int .i64 (j:Int)
      | 3=>v=.pointer (some ⟨g1,o1+j*5,none⟩)
      | 4=>v=.agg #[.int .i64 uo,.string us0,.slice uta utn utc,.string us1,.slice ua uan uc]
      | 5=>v=.pointer (some ⟨by',4,none⟩)
      | 6=>v=.slice (some ⟨g2,o2,none⟩) an cy
      | 7=>v=.int .i64 (j:Int)
      | 8=>v=.pointer (some ⟨g2,o2+j*5,none⟩)
      | 9=>v=.agg #[.int .i64 vo,.string vs0,.slice vta vtn vtc,.string vs1,.slice va van vc]
      | 10=>v=.bool q
      | _=>v=.bool (!q)) rfl rfl (by kernel_rfl) (by kernel_rfl) (by kernel_rfl) (by kernel_rfl) ?st ?_ ?_
     case st=>
      intro i9 v u1 u2 h hb
      match i9 with
      | 0 | 1 | 2 | 3 | 4 | 5 | 6 | 7 | 8 | 9 | 10 | 11 | _+12=>exact h
     refine zSc (zSo rfl ?s0) (zSc (zSo rfl ?s1) (zSc (zSo rfl ?s2) (zSc (zSo rfl ?s3) (zSc (zSo rfl ?s4) (zSc (zSo rfl ?s5) (zSc (zSo rfl ?s6) (zSc (zSo rfl ?s7) (zSc (zSo rfl ?s8) (zSc (zSo rfl ?s9) (zSc (zSo rfl ?s10) (zSc (zSo rfl ?s11) zSn)))))))))))
     case s0 | s2 | s5 | s7=>
      intro xs w' hb hT K9 hK9
      clear hT
      simp only[zFp,zAp,zLa,zLb,zLc,Nat.reduceAdd,zNz] at hK9⊢
      have hw:=Flow.hwD HWR.out hb
      go_simp
      exact hK9 _ _ (ZR _ _) rfl
     case s1=>
      intro xs w' hb hT K9 hK9
      have h0:(xs 0)=.pointer (some ⟨bx,4,none⟩):=hT 0 (by kernel_rfl)
      clear hT
      simp only[zFp,zAp,zLa,zLb,zLc,Nat.reduceAdd,zNz] at hK9⊢
      have hw:=Flow.hwD HWR.out hb
      have kb:=(hw.block bx (ZL HKR.out.1)).trans HKR.out.1
      have y0:=ZI kb 4
      clear kb
      simp at y0
      (try simp only[h0] at hK9)
      go_simp
      exact hK9 _ _ (ZR _ _) rfl
     case s3=>
      intro xs w' hb hT K9 hK9
      have h1:(xs 1)=.slice (some ⟨g1,o1,none⟩) an cx:=hT 1 (by kernel_rfl)
      have h2:(xs 2)=.int .i64 (j:Int):=hT 2 (by kernel_rfl)
      clear hT
      simp only[zFp,zAp,zLa,zLb,zLc,Nat.reduceAdd,zNz] at hK9⊢
      have hw:=Flow.hwD HWR.out hb
      (try simp only[h1] at hK9)
      (try simp only[h2] at hK9)
      go_simp
      exact hK9 _ _ (ZR _ _) rfl
     case s4=>
      intro xs w' hb hT K9 hK9
      have h3:(xs 3)=.pointer (some ⟨g1,o1+j*5,none⟩):=hT 3 (by kernel_rfl)
      clear hT
      simp only[zFp,zAp,zLa,zLb,zLc,Nat.reduceAdd,zNz] at hK9⊢
      have hw:=Flow.hwD HWR.out hb
      (try simp only[h3] at hK9)
      have y0:=ZJ hw HCX.out.1
      have y1:=ZJ hw HCX.out.2.1
      have y2:=ZJ hw HCX.out.2.2.1
      have y3:=ZJ hw HCX.out.2.2.2.1
      have y4:=ZJ hw HCX.out.2.2.2.2
      go_simp
      exact hK9 _ _ (ZR _ _) rfl
     case s6=>
      intro xs w' hb hT K9 hK9
      have h5:(xs 5)=.pointer (some ⟨by',4,none⟩):=hT 5 (by kernel_rfl)
      clear hT
      simp only[zFp,zAp,zLa,zLb,zLc,Nat.reduceAdd,zNz] at hK9⊢
      have hw:=Flow.hwD HWR.out hb
      have kb:=(hw.block by' (ZL HKR.out.2)).trans HKR.out.2
      have y0:=ZI kb 4
      clear kb
      simp at y0
      (try simp only[h5] at hK9)
      go_simp
      exact hK9 _ _ (ZR _ _) rfl
     case s8=>
      intro xs w' hb hT K9 hK9
      have h6:(xs 6)=.slice (some ⟨g2,o2,none⟩) an cy:=hT 6 (by kernel_rfl)
      have h7:(xs 7)=.int .i64 (j:Int):=hT 7 (by kernel_rfl)
      clear hT
      simp only[zFp,zAp,zLa,zLb,zLc,Nat.reduceAdd,zNz] at hK9⊢
      have hw:=Flow.hwD HWR.out hb
      (try simp only[h6] at hK9)
      (try simp only[h7] at hK9)
      go_simp
      exact hK9 _ _ (ZR _ _) rfl
     case s9=>
      intro xs w' hb hT K9 hK9
      have h8:(xs 8)=.pointer (some ⟨g2,o2+j*5,none⟩):=hT 8 (by kernel_rfl)
      clear hT
      simp only[zFp,zAp,zLa,zLb,zLc,Nat.reduceAdd,zNz] at hK9⊢
      have hw:=Flow.hwD HWR.out hb
      (try simp only[h8] at hK9)
      have y0:=ZJ hw HCY.out.1
      have y1:=ZJ hw HCY.out.2.1
      have y2:=ZJ hw HCY.out.2.2.1
      have y3:=ZJ hw HCY.out.2.2.2.1
      have y4:=ZJ hw HCY.out.2.2.2.2
      go_simp
      exact hK9 _ _ (ZR _ _) rfl
     case s10=>
      intro xs w' hb hT K9 hK9
      have h4:(xs 4)=.agg #[.int .i64 uo,.string us0,.slice uta utn utc,.string us1,.slice ua uan uc]:=hT 4 (by kernel_rfl)
      have h9:(xs 9)=.agg #[.int .i64 vo,.string vs0,.slice vta vtn vtc,.string vs1,.slice va van vc]:=hT 9 (by kernel_rfl)
      clear hT
      simp only[zFp,zAp,zLa,zLb,zLc,Nat.reduceAdd,zNz] at hK9⊢
      have hw:=Flow.hwD HWR.out hb
      (try simp only[h4] at hK9)
      (try simp only[h9] at hK9)
      go_simp
      go_at_call 11
      refine (HIK.out _ hw).mono ?_
      rintro e w3 ⟨rfl,hb3⟩
      exact hK9 _ _ hb3 rfl
     case s11=>
      intro xs w' hb hT K9 hK9
      have h10:(xs 10)=.bool q:=hT 10 (by kernel_rfl)
      clear hT
      simp only[zFp,zAp,zLa,zLb,zLc,Nat.reduceAdd,zNz] at hK9⊢
      have hw:=Flow.hwD HWR.out hb
      (try simp only[h10] at hK9)
      go_simp
      exact hK9 _ _ (ZR _ _) rfl
     intro xs w' hb hT
     have hw:=Flow.hwD HWR.out hb
     have h11:(xs 11)=.bool (!q):=hT 11 (by rfl)
     clear hT
     simp only[zFp,zAp,zLa,zLb,zLc,Nat.reduceAdd,zNz,FlowR.restL,FlowR.orM,Bool.false_or]
     simp only[h11]
     clear h11 hb
     have HBN:=ZH (HBW.out.trans (hw.mono HBW.out.size))
     clear hw
     cases q with
     | true=>
      have HNX:=ZH (show ∀k,k<j+1→sameE (x.a.getD k Ex.none) (y.a.getD k Ex.none)=true from fun k hk=>by
       by_cases h:k<j
       ·exact HALL.out k h
       ·obtain rfl:k=j:=by omega
        rw[←HQ.out.2.1,←HQ.out.2.2,←HQ.out.1])
      go_wp2_with fail
      go_roundg (an-(j+1))
      case measure=>have:=HLT.out; omega
      case rel=>exact ⟨j+1,by have:=HLT.out; omega,by first | (congr 1; done) | (congr 1; exact IntWalk.wrap64_in ((j:Int)+1) (by have:=HLT.out; omega)),HNX,HBN⟩
     | false=>
      have hR:RA=false:=by
       cases hRA2:RA with
       | false=>rfl
       | true=>
        have h1:=(sameL_at (by rw[←HN.out.2.2.1,←HN.out.2.2.2])).1 (HRA.out.symm.trans hRA2) j (by have h2:=HLT.out; have h3:=HN.out.2.2.1; omega)
        rw[←HQ.out.2.1,←HQ.out.2.2,←HQ.out.1] at h1
        cases h1
      have HF:=ZH (ZN (FIN.out (by rw[HA2.out,hR])) (HAL.out.trans (HBN.out.mono HAL.out.size)))
      clear hR
      go_wp2_with fail
      go_ret
      exact HF.out
    ·have e1:((j:Int)<(an:Int))=False:=eq_false (by omega)
     obtain rfl:j=an:=by omega
     have hR:RA=true:=by
      rw[HRA.out]
      exact (sameL_at (by rw[←HN.out.2.2.1,←HN.out.2.2.2])).2 fun k hk=>hall.out k (by rw[HN.out.2.2.1]; exact hk)
     have HF:=ZH (ZN (show Ending.returned (.bool true)=Ending.returned (.bool ANS) by rw[HA2.out,hR]) (HAL.out.trans (hbw.out.mono HAL.out.size)))
     clear hR hall hbw hlt hjn
     go_wp2_with fail
     go_ret
     exact HF.out
theorem psame_any : ∀(k:Nat) (x y:Ex),depE x≤k→∀(w:World) (vx vy:Value),ExIn w x vx→ExIn w y vy→Calls Tryz.prog 11 #[vx,vy] w fun e w'=>e=.returned (.bool (sameE x y))∧Below w.heap.size w w'
 | 0,x,y,hd,w,vx,vy,hx,hy=>by rw[depE_eq] at hd; omega
 | k+1,x,y,hd,w,vx,vy,hx,hy=>psame_step x y (fun j h1 h2 w vx vy hx hy=>psame_any k _ _ (by have h3:=depL_at h1; rw[depE_eq] at hd; omega) w vx vy hx hy) hx hy
theorem fst_zero {f:Nat→Int}:∀{n:Nat},fstErr f n=0→∀j,j<n→f j=0
 | 0,_,j,hj=>absurd hj (by omega)
 | n+1,h,j,hj=>by
  have h':(if fstErr f n≠0 then fstErr f n else f n)=0:=h
  by_cases h1:fstErr f n=0
  ·rw[if_neg (by simp[h1])] at h'
   rcases Nat.lt_or_eq_of_le (Nat.le_of_lt_succ hj) with h2 | h2
   ·exact fst_zero h1 j h2
   ·rw[h2]; exact h'
  ·rw[if_pos h1] at h'
   exact absurd h' h1
theorem step_zero {n:Int} {L:List (Int×List UInt8)} {j:Nat} (h:stepErr n L j=0):(0≤(L.getD j (0,[])).1∧(L.getD j (0,[])).1<n)∧(0<j→(L.getD (j-1) (0,[])).1<(L.getD j (0,[])).1)∧readErr (L.getD j (0,[])).2 400=0:=by
 unfold stepErr at h
 split at h
 ·exact absurd h (by decide)
 ·split at h
  ·exact absurd h (by decide)
  ·split at h
   ·next h3=>exact absurd h h3
   ·next h1 h2 h3=>
    refine ⟨by omega,fun hj=>?_,by omega⟩
    by_cases h4:(L.getD j (0,[])).1≤(L.getD (j-1) (0,[])).1
    ·exact absurd ⟨hj,h4⟩ h2
    ·omega
def natTerms (L:List (Int×List UInt8)):List (Nat×List UInt8):=L.map fun p=>(p.1.toNat,p.2)
theorem nat_at (L:List (Int×List UInt8)) (j:Nat):(natTerms L).getD j (0,[])=((L.getD j (0,[])).1.toNat,(L.getD j (0,[])).2):=by
 unfold natTerms
 rw[List.getD_eq_getElem?_getD,List.getD_eq_getElem?_getD,List.getElem?_map]
 cases L[j]?<;>rfl
theorem fine_form {c:List UInt8} {L:List (Int×List UInt8)} (h:formErr c L 64=0):zTerms (natTerms L)=L∧readErr c 400=0∧L.length≤64∧((natTerms L).Pairwise fun a b=>a.1<b.1)∧(∀p,p∈natTerms L→p.1<64∧readErr p.2 400=0):=by
 unfold formErr at h
 rw[if_neg (by omega)] at h
 split at h
 ·next h1=>exact absurd h h1
 ·next h1=>
  split at h
  ·exact absurd h (by decide)
  ·next h2=>
   have hs:=fun j hj=>step_zero (fst_zero h j hj)
   have hl:(natTerms L).length=L.length:=by unfold natTerms; simp
   have hz:zTerms (natTerms L)=L:=by
    unfold zTerms natTerms
    rw[List.map_map]
    refine (List.map_congr_left fun p hp=>?_).trans (List.map_id L)
    obtain ⟨j,hj,rfl⟩:=List.getElem_of_mem hp
    have h3:=(hs j hj).1.1
    rw[List.getD_eq_getElem?_getD,List.getElem?_eq_getElem hj] at h3
    simp only[Option.getD_some] at h3
    exact Prod.ext (Int.toNat_of_nonneg h3) rfl
   have hlt:∀d j,j+d+1<L.length→((natTerms L).getD j (0,[])).1<((natTerms L).getD (j+d+1) (0,[])).1:=by
    intro d
    induction d with
    | zero=>
     intro j hj
     have h3:=(hs (j+1) hj).2.1 (by omega)
     have h4:=(hs j (by omega)).1
     rw[show j+1-1=j by omega] at h3
     rw[nat_at,nat_at]
     show (L.getD j (0,[])).1.toNat<(L.getD (j+0+1) (0,[])).1.toNat
     rw[Nat.add_zero]
     omega
    | succ d ih=>
     intro j hj
     have h3:=(hs (j+d+1+1) (by omega)).2.1 (by omega)
     have h4:=(hs (j+d+1) (by omega)).1
     have h5:=ih j (by omega)
     rw[show j+d+1+1-1=j+d+1 by omega] at h3
     rw[nat_at,nat_at] at h5⊢
     have h5:(L.getD j (0,[])).1.toNat<(L.getD (j+d+1) (0,[])).1.toNat:=h5
     show (L.getD j (0,[])).1.toNat<(L.getD (j+(d+1)+1) (0,[])).1.toNat
     rw[show j+(d+1)+1=j+d+1+1 by omega]
     omega
   refine ⟨hz,by omega,by omega,?_,?_⟩
   ·rw[List.pairwise_iff_getElem]
    intro i j hi hj hij
    have h3:=hlt (j-i-1) i (by omega)
    rw[show i+(j-i-1)+1=j by omega] at h3
    rw[List.getD_eq_getElem?_getD,List.getD_eq_getElem?_getD,List.getElem?_eq_getElem hi,List.getElem?_eq_getElem hj] at h3
    exact h3
   ·intro p hp
    obtain ⟨j,hj,rfl⟩:=List.getElem_of_mem hp
    have h3:=hs j (by omega)
    have h4:=nat_at L j
    rw[List.getD_eq_getElem?_getD,List.getElem?_eq_getElem hj] at h4
    simp only[Option.getD_some] at h4
    rw[h4]
    refine ⟨?_,h3.2.2⟩
    show (L.getD j (0,[])).1.toNat<64
    have:=h3.1
    omega
theorem range_getD {f:Nat→Rat} {n i:Nat} (h:i<n):((List.range n).map f).getD i 0=f i:=by
 rw[List.getD_eq_getElem?_getD,List.getElem?_map,List.getElem?_range h]
 rfl
theorem add_model {L M:List (Nat×List UInt8)} (hL:L.Pairwise fun a b=>a.1<b.1) (hM:M.Pairwise fun a b=>a.1<b.1):sumTerms (addAll (L++M) noMap) 64=sumTerms (tmap (sumF L M 64)) 64:=by
 refine sumTerms_congr fun i hi=>?_
 rw[tot_addAll,tot_noMap,Rat.zero_add,worth_append,tmap_tot]
 unfold sumF
 rw[range_getD hi,fac_worth hL,fac_worth hM]
theorem scale_model {L:List (Nat×List UInt8)} (hL:L.Pairwise fun a b=>a.1<b.1) (r:Rat):sumTerms (scaleAll L r noMap) 64=sumTerms (tmap (mulF L r 64)) 64:=by
 refine sumTerms_congr fun i hi=>?_
 rw[tot_scaleAll _ _ _ hL (fun p _=>rfl),tot_noMap,Rat.zero_add,tmap_tot]
 unfold mulF
 rw[range_getD hi,fac_worth hL]
end Go.Proofs.YtdcaaehapdhckaaGreatDoor
set_option maxRecDepth 100000
namespace Go.Proofs.YtdcaaehapdhckaaGreatDoor
open Go.RowKit Go.Num
set_option maxHeartbeats 4000000

theorem infoByteL : (Tryz.prog.info? 5).map (fun i=>(i.zero,i.size,i.bytes))=some (some (.int .u8 0),1,1):=by kernel_rfl
theorem make_401 (w:World):(Instr.makeSlice 22 (.int .i64 401) (.int .i64 401)).run Tryz.prog w=.ok (.slice (some ⟨w.heap.size,0,none⟩) 401 401) (w.alloc (.cells (madeCells #[.int .u8 0] 401) 5)):=
 run_make_row' 22 5 (.int .u8 0) 1 Tryz.underlying22 infoByteL rfl .i64 .i64 401 (by decide) (by decide) w
def OnesAt (w:World) (b q:Nat):Prop:=∃cur,w.heap[b]?=some (.cells cur 5 (0,0))∧cur.size=401∧∀j,j<401→cur[j]?=some (.int .u8 (if j<q then 49 else 0))
theorem ones_made (w:World):OnesAt (w.alloc (.cells (madeCells #[.int .u8 0] 401) 5)) w.heap.size 0:=by
 obtain ⟨cur,hb,hs,hc⟩:=World.rowIs_made w (.int .u8 0) 401 5
 exact ⟨cur,hb,hs,fun j hj=>by rw[hc j hj,if_neg (Nat.not_lt_zero j)]⟩
theorem block_put {w:World} {b:Nat} {cs:Array Value} {t:TypeId} (h:w.heap[b]?=some (.cells cs t (0,0))) (i:Nat) (v:Value):(w.setCell ⟨b,i,none⟩ v).heap[b]?=some (.cells (cs.setIfInBounds i v) t (0,0)):=by
 have hlt:=ZL h
 have h':w.heap[b]=.cells cs t (0,0):=by simpa[Array.getElem?_eq_getElem hlt] using h
 show (w.heap.modify b _)[b]?=_
 rw[Array.getElem?_eq_getElem (by simpa using hlt),Array.getElem_modify_self,h']
 rfl
theorem OnesAt.set {w:World} {b q:Nat} (h:OnesAt w b q):OnesAt (w.setCell ⟨b,q,none⟩ (.int .u8 49)) b (q+1):=by
 obtain ⟨cur,h1,h2,h3⟩:=h
 refine ⟨_,block_put h1 q _,by simpa using h2,fun j hj=>?_⟩
 rw[Array.getElem?_setIfInBounds]
 by_cases e:q=j
 ·subst e
  rw[if_pos rfl,if_pos (by omega),if_pos (by omega)]
 ·rw[if_neg e,h3 j hj]
  by_cases e2:j<q
  ·rw[if_pos e2,if_pos (by omega)]
  ·rw[if_neg e2,if_neg (by omega)]
theorem OnesAt.at {w:World} {b q:Nat} (h:OnesAt w b q) {j:Nat} (hj:j<401):w.cell? ⟨b,j,none⟩=some (.int .u8 (if j<q then 49 else 0))∧w.frozen? ⟨b,j,none⟩=false:=by
 obtain ⟨cur,h1,_,h3⟩:=h
 exact ⟨(ZI h1 j).trans (h3 j hj),ZF h1 j⟩
def onesL : List UInt8:=List.replicate 401 49
theorem ones_string {w:World} {b:Nat} (h:OnesAt w b 401):(convert 22 24 (.slice (some ⟨b,0,none⟩) 401 401)).run Tryz.prog w=.ok (.string ⟨onesL.toArray⟩) w:=by
 have:=run_convert_bytes_back (P:=Tryz.prog) w 22 24 5 ⟨b,0,none⟩ 401 onesL Tryz.underlying22 Tryz.underlying5 Tryz.underlying24 (fun j hj=>by
  have hj':j<401:=by simpa[onesL] using hj
  have e:(⟨b,0,none⟩:Addr).add j=⟨b,j,none⟩:=by
   unfold Addr.add
   split
   ·next h=>subst h; rfl
   ·simp
  rw[e,(h.at hj').1,if_pos hj']
  have e2:onesL[j]=49:=List.getElem_replicate _
  exact congrArg (fun x:UInt8=>some (Value.int .u8 (x.toNat:Int))) e2.symm)
 exact this
end Go.Proofs.YtdcaaehapdhckaaGreatDoor
set_option maxRecDepth 100000
namespace Go.Proofs.YtdcaaehapdhckaaGreatDoor
open Go.RowKit Go.Num Go.Flow
set_option maxHeartbeats 8000000
set_option linter.unusedVariables false

def fewT (c:List UInt8) (L:List (Int×List UInt8)):Prop:=(∀j,j<L.length→(L.getD j (0,[])).2.length≤20)∧L.length≤6∧c.length≤20
theorem pfewTerms_any {w:World} {v:Value} {c:List UInt8} {L:List (Int×List UInt8)} (hf:FormZ w v c L):Calls Tryz.prog 16 #[v] w fun e w'=>∃b:Bool,e=.returned (.bool b)∧(b=true↔fewT c L)∧Below w.heap.size w w':=by
 obtain ⟨tv,rfl,ao,ca,rfl,hta,htb,htc⟩:=hf
 obtain ⟨n,hn⟩:∃n,n=L.length:=⟨_,rfl⟩
 obtain ⟨s,hs⟩:∃s:ByteArray,s=⟨c.toArray⟩:=⟨_,rfl⟩
 have hsz:s.size=c.length:=by rw[hs]; simp[ByteArray.size]
 obtain ⟨wa,bf,hwa,hbf,hal,k0⟩:=new_box w #[.string s,.slice ao n ca] 27
 have hcap:n≤ca∧ca≤9223372036854775807:=by rw[hn]; exact ⟨hta,htb⟩
 rw[←hn,←hs]
 have HTC:=ZH htc
 have HAL:=ZH hal
 have HK0:=ZH k0
 have HN:=ZH (ZN hn hsz)
 have HW:=ZH (ZN hwa hbf)
 clear hwa hbf hal k0 hta htb htc hs hn hsz
 go_enter Tryz.func16,Tryz.ntmps16
 go_upto_region 1 with fail
 rw[←HW.out.1,←HW.out.2]
 clear HW
 go_wp2_with fail
 go_loopg [3] n (fun gk x wr=>∃k:Nat,k+gk=n∧x=.int .i64 k∧k≤7∧Hid (∀j,j<k→(L.getD j (0,[])).2.length≤20)∧Hid (Below wa.heap.size wa wr))
 case atStart=>exact ⟨0,by omega,rfl,by omega,ZH (fun j hj=>by omega),ZH (ZR _ _)⟩
 case round=>
  obtain ⟨k,hk,rfl,hk7,hok,hbw⟩:=hrel
  obtain ⟨s0,s1⟩:=cells2 hbw.out HK0.out
  by_cases hlt:k<n∧k<7
  ·have e1:((k:Int)<(n:Int))=True:=eq_true (by omega)
   have e2:((k:Int)<(7:Int))=True:=eq_true (by omega)
   obtain ⟨g,o,rfl,-,hcc⟩:=HTC.out (by have:=HN.out; omega)
   have hx:=(hcc k (by have:=HN.out; omega)).2
   obtain ⟨tl,htl⟩:∃x,x=(L.getD k (0,[])).2:=⟨_,rfl⟩
   rw[←htl] at hx
   obtain ⟨tt,htx⟩:∃s:ByteArray,s=⟨tl.toArray⟩:=⟨_,rfl⟩
   rw[←htx] at hx
   have htz:tt.size=tl.length:=by rw[htx]; simp[ByteArray.size]
   have x1:=ZJ (HAL.out.trans (hbw.out.mono HAL.out.size)) hx
   have HLT:=ZH (ZN hlt (ZN htl htz))
   have HOK:=ZH hok.out
   have HBW:=ZH hbw.out
   have hk0:(0:Int)≤(k:Int):=by omega
   have hk1:(k:Int)<(n:Int):=by omega
   clear hcc hx htl htx htz hlt hok hbw hk7
   by_cases h20:20<tt.size
   ·have e3:((20:Int)<(tt.size:Int))=True:=eq_true (by omega)
    have HF:=ZH (show ¬fewT c L from fun h=>by
     have h1:=h.1 k (by have:=HLT.out.1; have:=HN.out.1; omega)
     rw[←HLT.out.2.1] at h1
     have:=HLT.out.2.2
     omega)
    clear h20
    go_wp2_with fail
    go_ret
    exact ⟨false,rfl,⟨fun h=>absurd h (by simp),fun h=>absurd h HF.out⟩,HAL.out.trans (HBW.out.mono HAL.out.size)⟩
   ·have e3:((20:Int)<(tt.size:Int))=False:=eq_false (by omega)
    have HNX:=ZH (show ∀j,j<k+1→(L.getD j (0,[])).2.length≤20 from fun j hj=>by
     rcases Nat.lt_or_eq_of_le (Nat.le_of_lt_succ hj) with h | h
     ·exact HOK.out j h
     ·rw[h,←HLT.out.2.1]
      have:=HLT.out.2.2
      omega)
    clear h20
    go_wp2_with fail
    go_roundg (n-(k+1))
    case measure=>have:=HLT.out.1; omega
    case rel=>exact ⟨k+1,by have:=HLT.out.1; omega,by first | (congr 1; done) | (congr 1; exact IntWalk.wrap64_in ((k:Int)+1) (by have:=HLT.out.1; omega)),by have:=HLT.out.1; omega,HNX,HBW⟩
  ·have HOK:=ZH hok.out
   have HBW:=ZH hbw.out
   have hsl:(6<n∨k=n):=by omega
   have HB:=ZH (HAL.out.trans (hbw.out.mono HAL.out.size))
   clear hok hbw
   by_cases hn6:n≤6
   ·have e1:((k:Int)<(n:Int))=False:=eq_false (by omega)
    have e4:((n:Int)≤(6:Int))=True:=eq_true (by omega)
    obtain rfl:k=n:=by omega
    by_cases hc20:s.size≤20
    ·have e5:((s.size:Int)≤(20:Int))=True:=eq_true (by omega)
     have HF:=ZH (show fewT c L from ⟨fun j hj=>HOK.out j (by have:=HN.out.1; omega),by have:=HN.out.1; omega,by have:=HN.out.2; omega⟩)
     clear hc20 hn6 hlt hsl hk7
     go_wp2_with fail
     go_ret
     exact ⟨true,rfl,⟨fun _=>HF.out,fun _=>rfl⟩,HB.out⟩
    ·have e5:((s.size:Int)≤(20:Int))=False:=eq_false (by omega)
     have HF:=ZH (show ¬fewT c L from fun h=>by have h1:=h.2.2; have:=HN.out.2; omega)
     clear hc20 hn6 hlt hsl hk7
     go_wp2_with fail
     go_ret
     exact ⟨false,rfl,⟨fun h=>absurd h (by simp),fun h=>absurd h HF.out⟩,HB.out⟩
   ·have e4:((n:Int)≤(6:Int))=False:=eq_false (by omega)
    have HF:=ZH (show ¬fewT c L from fun h=>by have h1:=h.2.1; have:=HN.out.1; omega)
    by_cases hkn:k<n
    ·have e1:((k:Int)<(n:Int))=True:=eq_true (by omega)
     have e2:((k:Int)<(7:Int))=False:=eq_false (by omega)
     clear hn6 hlt hsl hk7 hkn
     go_wp2_with fail
     go_ret
     exact ⟨false,rfl,⟨fun h=>absurd h (by simp),fun h=>absurd h HF.out⟩,HB.out⟩
    ·have e1:((k:Int)<(n:Int))=False:=eq_false (by omega)
     clear hn6 hlt hsl hk7 hkn
     go_wp2_with fail
     go_ret
     exact ⟨false,rfl,⟨fun h=>absurd h (by simp),fun h=>absurd h HF.out⟩,HB.out⟩
end Go.Proofs.YtdcaaehapdhckaaGreatDoor
