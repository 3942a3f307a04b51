/- Equality of dimensions and of terms. -/
import Derived.Test.YtdcaaehapdhckaaGreatDoorKY
import Derived.Laws.StructEq
import Derived.Test.YtdcaaehapdhckaaGreatDoorK1
import Derived.Test.YtdcaaehapdhckaaGreatDoorKW
import Derived.Deep.LoopGhost
import Derived.Test.YtdcaaehapdhckaaGreatDoorK3
import Derived.Test.YtdcaaehapdhckaaGreatDoorMBoundsM
set_option linter.unusedSimpArgs false
set_option linter.unusedVariables false
set_option maxRecDepth 100000
namespace Go.Proofs.YtdcaaehapdhckaaGreatDoor
open Go.RowKit Go.Num Go.Flow Go.Dtm
set_option maxHeartbeats 4000000

theorem dim_struct : Tryz.prog.underlying 70=some (.struct (Tryz.prog.fieldsOf 70)):=by kernel_rfl
theorem dim_stood : Tryz.prog.stoodInHeld 70=false:=by kernel_rfl
theorem dim_guard : Tryz.prog.eqGuardType Tryz.prog.depth 70=false:=by kernel_rfl
def dmEq (a b:Dm):Bool:=(a.name.toList==b.name.toList)&&((a.nominal==b.nominal)&&((a.lower==b.lower)&&(a.upper==b.upper)))
theorem eq_dim (a b:Dm) (w:World):(binOp .eql 70 (.agg #[.string a.name,.int .i64 a.nominal,.int .i64 a.lower,.int .i64 a.upper]) (.agg #[.string b.name,.int .i64 b.nominal,.int .i64 b.lower,.int .i64 b.upper])).run Tryz.prog w=.ok (.bool (dmEq a b)) w:=by
 rw[run_eql_struct,run_equalIn_agg w 9999 70 _ _ dim_struct dim_stood]
 unfold Program.fieldsOf dmEq
 rw[Tryz.underlying70]
 cases h0:a.name.toList==b.name.toList<;>cases h1:a.nominal==b.nominal<;>cases h2:a.lower==b.lower<;>cases h3:a.upper==b.upper<;>simp_all [go_sem,Tryz.underlying3,Tryz.underlying9]
theorem neq_dim (a b:Dm) (w:World):(binOp .neq 70 (.agg #[.string a.name,.int .i64 a.nominal,.int .i64 a.lower,.int .i64 a.upper]) (.agg #[.string b.name,.int .i64 b.nominal,.int .i64 b.lower,.int .i64 b.upper])).run Tryz.prog w=.ok (.bool (!dmEq a b)) w:=by
 rw[run_neq_struct,run_equalIn_agg w 9999 70 _ _ dim_struct dim_stood]
 unfold Program.fieldsOf dmEq
 rw[Tryz.underlying70]
 cases h0:a.name.toList==b.name.toList<;>cases h1:a.nominal==b.nominal<;>cases h2:a.lower==b.lower<;>cases h3:a.upper==b.upper<;>simp_all [go_sem,Tryz.underlying3,Tryz.underlying9]
theorem term_struct : Tryz.prog.underlying 85=some (.struct (Tryz.prog.fieldsOf 85)):=by kernel_rfl
theorem term_stood : Tryz.prog.stoodInHeld 85=false:=by kernel_rfl
theorem term_guard : Tryz.prog.eqGuardType Tryz.prog.depth 85=false:=by kernel_rfl
theorem neq_term (x y:Int) (s t:ByteArray) (w:World):(binOp .neq 85 (.agg #[.int .i64 x,.string s]) (.agg #[.int .i64 y,.string t])).run Tryz.prog w=.ok (.bool (!((x==y)&&(s.toList==t.toList)))) w:=by
 rw[run_neq_struct,run_equalIn_agg w 9999 85 _ _ term_struct term_stood]
 unfold Program.fieldsOf
 rw[Tryz.underlying85]
 cases h0:x==y<;>cases h1:s.toList==t.toList<;>simp_all [go_sem,Tryz.underlying3]
end Go.Proofs.YtdcaaehapdhckaaGreatDoor
set_option maxRecDepth 100000
namespace Go.Proofs.YtdcaaehapdhckaaGreatDoor
open Go.RowKit Go.Num Go.Flow
set_option maxHeartbeats 8000000
set_option linter.unusedVariables false

def eqTermZ (p q:Int×List UInt8):Bool:=(p.1==q.1)&&(p.2==q.2)
theorem eqTermZ_iff {p q:Int×List UInt8}:eqTermZ p q=true↔p=q:=by
 unfold eqTermZ
 rw[Bool.and_eq_true,beq_iff_eq,beq_iff_eq]
 constructor
 ·intro h; exact Prod.ext h.1 h.2
 ·rintro rfl; exact ⟨rfl,rfl⟩
theorem same_listsZ {α:Type} [DecidableEq α] {l m:List α} (d:α) (hl:l.length=m.length) (h:∀j,j<l.length→l.getD j d=m.getD j d):l=m:=by
 apply List.ext_getElem hl
 intro j h1 h2
 have:=h j h1
 rw[List.getD_eq_getElem?_getD,List.getD_eq_getElem?_getD,List.getElem?_eq_getElem h1,List.getElem?_eq_getElem h2] at this
 exact this
theorem sEqTZ_any {w:World} {v1 v2:Value} {l m:List (Int×List UInt8)} (h1:TermsZ w v1 l) (h2:TermsZ w v2 m) (hsm:l.length≤1000000) :
  Calls Tryz.prog 65 #[v1,v2] w fun e w'=>e=.returned (.bool (decide (l=m)))∧Below w.heap.size w w':=by
 obtain ⟨a1,c1,rfl,p1,p2,p3⟩:=h1
 obtain ⟨a2,c2,rfl,q1,q2,q3⟩:=h2
 obtain ⟨n,hn⟩:∃n,n=l.length:=⟨_,rfl⟩
 obtain ⟨k,hk⟩:∃n,n=m.length:=⟨_,rfl⟩
 obtain ⟨R,hR⟩:∃x,x=decide (l=m):=⟨_,rfl⟩
 unfold maxLen at p2 q2
 rw[←hn] at p1 p3 hsm⊢
 rw[←hk] at q1 q3⊢
 rw[←hR]
 have P3:=ZH p3
 have Q3:=ZH q3
 have HR:=ZH hR
 have HN:=ZH (ZN hn hk)
 clear p3 q3 hR hn hk
 go_enter Tryz.func65,Tryz.ntmps65
 by_cases hnk:n=k
 ·subst hnk
  have e0:((n:Int)==(n:Int))=true:=by simp
  go_wp2_with fail
  go_loopw [13] (fun x wr=>∃i:Nat,i≤n∧x=.int .i64 i∧Hid (∀j,j<i→l.getD j (0,[])=m.getD j (0,[]))∧Hid (Below w.heap.size w wr)) (fun x _=>n-(intOf x).toNat)
  case atStart=>exact ⟨0,Nat.zero_le _,rfl,ZH (fun j hj=>absurd hj (by omega)),ZH (ZR _ _)⟩
  case round=>
   obtain ⟨i,hin,rfl,hall,hbw⟩:=hrel
   by_cases hlt:i<n
   ·have e1:((i:Int)<(n:Int))=True:=eq_true (by omega)
    obtain ⟨b1,o1,rfl,-,hc1⟩:=P3.out (by omega)
    obtain ⟨b2,o2,rfl,-,hc2⟩:=Q3.out (by omega)
    obtain ⟨x,hx⟩:∃q,q=l.getD i (0,[]):=⟨_,rfl⟩
    obtain ⟨y,hy⟩:∃q,q=m.getD i (0,[]):=⟨_,rfl⟩
    have h1:=hc1 i hlt
    have h2:=hc2 i hlt
    rw[←hx] at h1
    rw[←hy] at h2
    have x0:=ZJ hbw.out h1.1
    have x1:=ZJ hbw.out h1.2
    have y0:=ZJ hbw.out h2.1
    have y1:=ZJ hbw.out h2.2
    have hi0:(0:Int)≤(i:Int):=by omega
    have hi1:(i:Int)<(n:Int):=by omega
    have HXY:=ZH (ZN hx hy)
    clear hx hy h1 h2 hc1 hc2
    have hev:=neq_term x.1 y.1 ⟨x.2.toArray⟩ ⟨y.2.toArray⟩
    have hvg:=term_guard
    rw[toArray_list,toArray_list] at hev
    obtain ⟨q,hq⟩:∃q,q=((x.1==y.1)&&(x.2==y.2)):=⟨_,rfl⟩
    rw[←hq] at hev
    have HQ:=ZH hq
    clear hq
    go_upto_region 6 with fail
    go_quiet (fail)
    cases q with
    | true=>
     have hxy:x=y:=eqTermZ_iff.1 HQ.out.symm
     go_wp2_with fail
     refine ⟨⟨i+1,hlt,by congr 1,ZH fun j hj=>?_,ZH (hbw.out.trans ((below_drawn wr _).mono hbw.out.size))⟩,by simp[intOf]; omega⟩
     by_cases h:j<i
     ·exact hall.out j h
     ·obtain rfl:j=i:=by omega
      rw[←HXY.out.1,←HXY.out.2,hxy]
    | false=>
     have hR:R=false:=by
      rw[HR.out,decide_eq_false_iff_not]
      rintro rfl
      have:eqTermZ x y=true:=eqTermZ_iff.2 (by rw[HXY.out.1,HXY.out.2])
      unfold eqTermZ at this
      rw[←HQ.out] at this
      cases this
     go_wp2_with fail
     go_ret
     exact ⟨by rw[hR]; rfl,hbw.out.trans ((below_drawn wr _).mono hbw.out.size)⟩
   ·have e1:((i:Int)<(n:Int))=False:=eq_false (by omega)
    obtain rfl:i=n:=by omega
    have hR:R=true:=by
     rw[HR.out,decide_eq_true_iff]
     exact same_listsZ (0,[]) (by rw[←HN.out.1,HN.out.2]) (fun j hj=>hall.out j (by rw[HN.out.1]; exact hj))
    go_wp2_with fail
    go_ret
    exact ⟨by rw[hR]; rfl,hbw.out⟩
 ·have e0:((n:Int)==(k:Int))=false:=ZQ.2 (by omega)
  have hR:R=false:=by
   rw[HR.out,decide_eq_false_iff_not]
   rintro rfl
   exact hnk (HN.out.1.trans HN.out.2.symm)
  go_wp2_with fail
  go_ret
  exact ⟨by rw[hR]; rfl,ZR _ _⟩
theorem sEqFE_nil {w:World} {a1 a2:Option Addr} {c1 c2:Nat} (f:Value):Calls Tryz.prog 66 #[.slice a1 0 c1,.slice a2 0 c2,f] w fun e w'=>e=.returned (.bool true)∧Below w.heap.size w w':=by
 go_enter Tryz.func66,Tryz.ntmps66
 go_wp2_with fail
 go_loopw [17] (fun x wr=>x=.int .i64 0∧Hid (Below w.heap.size w wr)) (fun x _=>0)
 case atStart=>exact ⟨rfl,ZH (ZR _ _)⟩
 case round=>
  obtain ⟨rfl,hbw⟩:=hrel
  go_wp2_with fail
  go_ret
  exact ⟨rfl,hbw.out⟩
def leafEq (x y:Ex):Bool:=(x.op==y.op)&&((x.f==y.f)&&((x.c==y.c)&&decide (x.t=y.t)))
theorem mEqual_leaf {w:World} {x y:Ex} {vx vy:Value} (hx:ExIn w x vx) (hy:ExIn w y vy) (h1:x.a = []) (h2:y.a = []) (hsm:x.t.length≤1000000):Calls Tryz.prog 27 #[vx,vy] w fun e w'=>e=.returned (.bool (leafEq x y))∧Below w.heap.size w w':=by
 obtain ⟨tx,ax,cx,rfl,htx,-⟩:=hx.out
 obtain ⟨ty,ay,cy,rfl,hty,-⟩:=hy.out
 rw[h1,h2]
 obtain ⟨tax,tcx,rfl,-⟩:=id htx
 obtain ⟨tay,tcy,rfl,-⟩:=id hty
 obtain ⟨sx,hsx⟩:∃s:ByteArray,s=⟨x.c.toArray⟩:=⟨_,rfl⟩
 obtain ⟨sy,hsy⟩:∃s:ByteArray,s=⟨y.c.toArray⟩:=⟨_,rfl⟩
 obtain ⟨fx,hfx⟩:∃s:ByteArray,s=⟨x.f.toArray⟩:=⟨_,rfl⟩
 obtain ⟨fy,hfy⟩:∃s:ByteArray,s=⟨y.f.toArray⟩:=⟨_,rfl⟩
 obtain ⟨nx,hnx⟩:∃q,q=x.t.length:=⟨_,rfl⟩
 obtain ⟨ny,hny⟩:∃q,q=y.t.length:=⟨_,rfl⟩
 rw[←hnx] at htx⊢
 rw[←hny] at hty⊢
 rw[←hsx,←hsy,←hfx,←hfy]
 obtain ⟨ox,hox⟩:∃q,q=x.op:=⟨_,rfl⟩
 obtain ⟨oy,hoy⟩:∃q,q=y.op:=⟨_,rfl⟩
 rw[←hox,←hoy]
 simp only[List.length_nil]
 obtain ⟨wa,bx,by',hwa,hbx,hby,hal,k0,k1⟩:=new_two w #[.int .i64 ox,.string sx,.slice tax nx tcx,.string fx,.slice ax 0 cx] #[.int .i64 oy,.string sy,.slice tay ny tcy,.string fy,.slice ay 0 cy] 30 30
 have e2:(fx.toList==fy.toList)=(x.f==y.f):=by rw[hfx,hfy,toArray_list,toArray_list]
 have e3:(sx.toList==sy.toList)=(x.c==y.c):=by rw[hsx,hsy,toArray_list,toArray_list]
 have HE:=ZH (show leafEq x y=((ox==oy)&&((fx.toList==fy.toList)&&((sx.toList==sy.toList)&&decide (x.t=y.t)))) by rw[e2,e3,hox,hoy]; rfl)
 obtain ⟨R,hR⟩:∃q,q=decide (x.t=y.t):=⟨_,rfl⟩
 have HT:=ZH (show ∀W,Below wa.heap.size wa W→Calls Tryz.prog 65 #[.slice tax nx tcx,.slice tay ny tcy] W fun e w'=>e=.returned (.bool R)∧Below W.heap.size W w' from fun W hb=>by
  rw[hR]
  exact sEqTZ_any ((htx.below hal).below hb) ((hty.below hal).below hb) hsm)
 rw[←hR] at HE
 obtain ⟨ANS,hANS⟩:∃q,q=leafEq x y:=⟨_,rfl⟩
 rw[←hANS] at HE⊢
 have HAL:=ZH hal
 have HK:=ZH (ZN k0 k1)
 have HW:=ZH (ZN hwa (ZN hbx hby))
 obtain ⟨x0,x1,x2,x3,x4⟩:=cells5 (ZR _ wa) k0
 obtain ⟨y0,y1,y2,y3,y4⟩:=cells5 (ZR _ wa) k1
 clear hwa hbx hby hal k0 k1 htx hty hnx hny hsx hsy hfx hfy hox hoy e2 e3 hR hx hy h1 h2 hsm hANS
 go_enter Tryz.func27,Tryz.ntmps27
 go_upto_region 1 with fail
 rw[←HW.out.1,←HW.out.2.2,←HW.out.2.1]
 clear HW
 cases q1:(ox==oy) with
 | false=>
  have HA:=ZH (show ANS=false by rw[HE.out,q1]; rfl)
  go_wp2_with fail
  go_ret
  exact ⟨by rw[HA.out]; rfl,HAL.out⟩
 | true=>
  cases q2:(fx.toList==fy.toList) with
  | false=>
   have HA:=ZH (show ANS=false by rw[HE.out,q1,q2]; rfl)
   go_wp2_with fail
   go_ret
   exact ⟨by rw[HA.out]; rfl,HAL.out⟩
  | true=>
   cases q3:(sx.toList==sy.toList) with
   | false=>
    have HA:=ZH (show ANS=false by rw[HE.out,q1,q2,q3]; rfl)
    go_wp2_with fail
    go_ret
    exact ⟨by rw[HA.out]; rfl,HAL.out⟩
   | true=>
    have HA:=ZH (show ANS=R by rw[HE.out,q1,q2,q3]; rfl)
    have HT0:=ZH (HT.out wa (ZR _ _))
    go_wp2_with fail
    refine HT0.out.mono ?_
    rintro e w3 ⟨rfl,hb3⟩
    cases R with
    | false=>
     have HB:=ZH (HAL.out.trans (hb3.mono HAL.out.size))
     clear hb3
     go_wp2_with fail
     go_ret
     exact ⟨by rw[HA.out]; rfl,HB.out⟩
    | true=>
     obtain ⟨x0,x1,x2,x3,x4⟩:=cells5 hb3 HK.out.1
     obtain ⟨y0,y1,y2,y3,y4⟩:=cells5 hb3 HK.out.2
     have HB:=ZH (HAL.out.trans (hb3.mono HAL.out.size))
     clear hb3
     go_wp2_with fail
     refine (sEqFE_nil _).mono ?_
     rintro e w4 ⟨rfl,hb4⟩
     have HB4:=ZH (HB.out.trans (hb4.mono HB.out.size))
     clear hb4
     go_wp2_with fail
     go_ret
     exact ⟨by rw[HA.out]; rfl,HB4.out⟩
end Go.Proofs.YtdcaaehapdhckaaGreatDoor
set_option maxRecDepth 100000
namespace Go.Proofs.YtdcaaehapdhckaaGreatDoor
open Go.RowKit Go.Num Go.Flow Go.Dtm
set_option maxHeartbeats 8000000
set_option linter.unusedVariables false

theorem dims_one {w:World} {b:Nat} {d:Dm} {t:TypeId} (h:w.heap[b]?=some (.cells #[.string d.name,.int .i64 d.nominal,.int .i64 d.lower,.int .i64 d.upper] t (0,0))):DimsIn w (some ⟨b,0,none⟩) 1 [d]:=by
 refine ⟨Nat.le_refl _,by unfold maxLen; omega,fun _=>⟨b,0,rfl,ZL h,fun j hj=>?_⟩⟩
 obtain rfl:j=0:=by simpa using hj
 exact ⟨ZI h 0,ZI h 1,ZI h 2,ZI h 3⟩
theorem dims_two {w:World} {b:Nat} {d e:Dm} {t:TypeId} (h:w.heap[b]?=some (.cells #[.string d.name,.int .i64 d.nominal,.int .i64 d.lower,.int .i64 d.upper,.string e.name,.int .i64 e.nominal,.int .i64 e.lower,.int .i64 e.upper] t (0,0))):DimsIn w (some ⟨b,0,none⟩) 2 [d,e]:=by
 refine ⟨Nat.le_refl _,by unfold maxLen; omega,fun _=>⟨b,0,rfl,ZL h,fun j hj=>?_⟩⟩
 have hj:j<2:=hj
 match j,hj with
 | 0,_=>exact ⟨ZI h 0,ZI h 1,ZI h 2,ZI h 3⟩
 | 1,_=>exact ⟨ZI h 4,ZI h 5,ZI h 6,ZI h 7⟩
theorem dimErr_one (d:Dm):dimsErr [d]=dimErr [d] 0:=by
 unfold dimsErr
 rw[if_neg (by simp)]
 simp only[List.length_cons,List.length_nil,Nat.zero_add,firstErr]
 split<;>simp_all
theorem fine_dim {d:Dm} (h:dimsErr [d]=0):isName d.name=true∧(-1073741824≤d.nominal∧d.nominal≤1073741824)∧(-1073741824≤d.lower∧d.lower≤1073741824)∧(-1073741824≤d.upper∧d.upper≤1073741824)∧d.lower≤d.upper:=by
 rw[dimErr_one] at h
 unfold dimErr at h
 simp only[List.getD_cons_zero] at h
 split at h
 ·omega
 ·next h1=>
  split at h
  ·omega
  ·next h2=>
   split at h
   ·omega
   ·next h3=>
    simp only[farM,Bool.or_eq_true,decide_eq_true_eq,not_or] at h2
    exact ⟨by simpa using h1,by omega,by omega,by omega,by omega⟩
def fitErr (h s:Dm):Int:=if dimsErr [h]≠0 then dimsErr [h] else dimsErr [s]
def leastC (h s:Dm):Int:=(h.nominal+h.lower)-(s.nominal+s.upper)
def mostC (h s:Dm):Int:=(h.nominal+h.upper)-(s.nominal+s.lower)
def kindOf (a b:Int):Int:=if 0≤a then 1 else if b≤0 then 3 else 2
theorem mRange_wide {W:World} (d:Dm) (h1:-2000000000≤d.nominal∧d.nominal≤2000000000) (h2:-2000000000≤d.lower∧d.lower≤2000000000) (h3:-2000000000≤d.upper∧d.upper≤2000000000) :
  Calls Tryz.prog 73 #[dmV d] W fun e w'=>e=.returned (.tuple #[.int .i64 (d.nominal+d.lower),.int .i64 (d.nominal+d.upper)])∧Below W.heap.size W w':=by
 unfold dmV
 obtain ⟨wa,hwa⟩:∃x,x=W.alloc (.cells #[.string d.name,.int .i64 d.nominal,.int .i64 d.lower,.int .i64 d.upper] 70):=⟨_,rfl⟩
 obtain ⟨ba,hba⟩:∃x,x=W.heap.size:=⟨_,rfl⟩
 have hal:Below W.heap.size W wa:=by rw[hwa]; exact (ZR _ W).alloc (Nat.le_refl _) _
 have k0:wa.heap[ba]?=some (.cells #[.string d.name,.int .i64 d.nominal,.int .i64 d.lower,.int .i64 d.upper] 70 (0,0)):=by rw[hwa,hba]; exact ZW W _
 have s1:=ZI k0 1
 have s2:=ZI k0 2
 have s3:=ZI k0 3
 simp at s1 s2 s3
 have HAL:=ZH hal
 have HW:=ZH (ZN hwa hba)
 have w1:IntKind.i64.wrap (d.nominal+d.lower)=d.nominal+d.lower:=IntWalk.i64_in _ (by omega)
 have w2:IntKind.i64.wrap (d.nominal+d.upper)=d.nominal+d.upper:=IntWalk.i64_in _ (by omega)
 clear hal hwa hba k0 h1 h2 h3
 go_enter Tryz.func73,Tryz.ntmps73
 go_upto_region 1 with fail
 rw[←HW.out.1,←HW.out.2]
 clear HW
 go_quiet (fail)
 go_wp2_with fail
 go_ret2
 exact ⟨rfl,HAL.out.trans ((below_drawn wa _).mono HAL.out.size)⟩
theorem mFit_any {w:World} (h s:Dm):Calls Tryz.prog 32 #[dmV h,dmV s] w fun e w'=>(fitErr h s≠0→e=.returned (.tuple #[.int .i64 0,.int .i64 0,.int .i64 0,.int .i64 (fitErr h s)]))∧(fitErr h s=0→e=.returned (.tuple #[.int .i64 (kindOf (leastC h s) (mostC h s)),.int .i64 (leastC h s),.int .i64 (mostC h s),.int .i64 0]))∧Below w.heap.size w w':=by
 unfold dmV
 obtain ⟨wa,ba,bb,hwa,hba,hbb,hal,k0,k1⟩:=new_two w #[.string h.name,.int .i64 h.nominal,.int .i64 h.lower,.int .i64 h.upper] #[.string s.name,.int .i64 s.nominal,.int .i64 s.lower,.int .i64 s.upper] 70 70
 have HW:=ZH (ZN hwa (ZN hba hbb))
 have HK:=ZH (ZN k0 k1)
 have HAL:=ZH hal
 obtain ⟨x0,x1,x2,x3⟩:=cells4 (ZR _ wa) k0
 obtain ⟨y0,y1,y2,y3⟩:=cells4 (ZR _ wa) k1
 clear hwa hba hbb hal k0 k1
 go_enter Tryz.func32,Tryz.ntmps32
 go_upto_region 1 with fail
 rw[←HW.out.1,←HW.out.2.2,←HW.out.2.1]
 clear HW
 go_upto_region 2 with fail
 obtain ⟨w1,b1,hw1,hb1,hl1,kb⟩:=new_box wa #[.string h.name,.int .i64 h.nominal,.int .i64 h.lower,.int .i64 h.upper,.string s.name,.int .i64 s.nominal,.int .i64 s.lower,.int .i64 s.upper] 70
 rw[←hw1,←hb1]
 have HD:=ZH (dims_two kb)
 have HB1:=ZH hl1
 have HK1:=ZH (ZN ((hl1.block ba (ZL HK.out.1)).trans HK.out.1) ((hl1.block bb (ZL HK.out.2)).trans HK.out.2))
 clear hw1 hb1 hl1 kb x0 x1 x2 x3 y0 y1 y2 y3
 go_loopg [19] 2 (fun gk i wr=>∃k:Nat,k+gk=2∧i=.int .i64 k∧Hid (∀j,j<k→dimsErr [[h,s].getD j Dm.none]=0)∧Hid (Below w1.heap.size w1 wr))
 case atStart=>exact ⟨0,by omega,rfl,ZH (fun j hj=>by omega),ZH (ZR _ _)⟩
 case round=>
  obtain ⟨k,hk,rfl,hno,hbw⟩:=hrel
  by_cases hlt:k<2
  ·have e1:((k:Int)<2)=True:=eq_true (by omega)
   obtain ⟨g,o,hgo,-,hc⟩:=HD.out.2.2 (by simp)
   simp only[Option.some.injEq,Addr.mk.injEq,and_true] at hgo
   obtain ⟨rfl,rfl⟩:=hgo
   have hx:=hc k (by simpa using hlt)
   obtain ⟨d,hdd⟩:∃x,x = [h,s].getD k Dm.none:=⟨_,rfl⟩
   have hfe:dimsErr [d]≠0→fitErr h s=dimsErr [d]:=fun hne=>by
    unfold fitErr
    rcases (show k=0∨k=1 by omega) with rfl | rfl
    ·have e:d=h:=hdd
     rw[←e,if_pos hne]
    ·have e:d=s:=hdd
     have h0:dimsErr [h]=0:=hno.out 0 (by omega)
     rw[if_neg (by simp[h0]),e]
   have hyes:dimsErr [d]=0→∀j,j<k+1→dimsErr [[h,s].getD j Dm.none]=0:=fun h0 j hj=>by
    by_cases e:j<k
    ·exact hno.out j e
    ·obtain rfl:j=k:=by omega
     rw[←hdd]
     exact h0
   rw[←hdd] at hx
   simp only[Nat.zero_add] at hx
   have x0:=ZJ hbw.out hx.1
   have x1:=ZJ hbw.out hx.2.1
   have x2:=ZJ hbw.out hx.2.2.1
   have x3:=ZJ hbw.out hx.2.2.2
   have HFE:=ZH (ZN hfe (ZN hyes hlt))
   have hk0:(0:Int)≤(k:Int):=by omega
   have hk1:(k:Int)<2:=by omega
   clear hc hx hdd hfe hyes hno hlt
   go_upto_region 4 with fail
   obtain ⟨w4,b4,hw4,hb4,hl4,kd⟩:=new_box wr #[.string d.name,.int .i64 d.nominal,.int .i64 d.lower,.int .i64 d.upper] 70
   rw[←hw4,←hb4]
   have hck:=mCheck_any (D:=[d]) (dims_one (ZW w4 (.cells #[.string d.name,.int .i64 d.nominal,.int .i64 d.lower,.int .i64 d.upper] 70))) (by simp)
   simp only[List.length_cons,List.length_nil,Nat.zero_add] at hck
   obtain ⟨E,hE⟩:∃x,x=dimsErr [d]:=⟨_,rfl⟩
   rw[←hE] at hck HFE
   have HCK:=ZH hck
   have HB4:=ZH (hbw.out.trans (hl4.mono hbw.out.size))
   have HL5:=ZH (show Below w4.heap.size w4 (w4.alloc (.cells #[.string d.name,.int .i64 d.nominal,.int .i64 d.lower,.int .i64 d.upper] 70)) from (ZR _ w4).alloc (Nat.le_refl _) _)
   clear x0 x1 x2 x3
   obtain ⟨y0,y1,y2,y3⟩:=cells4 (ZR _ w4) kd
   clear hw4 hb4 hl4 kd hk0 hk1 hck hE hbw
   go_wp2_with fail
   refine HCK.out.mono ?_
   rintro e w6 ⟨rfl,hb6⟩
   have h46:=HL5.out.trans (hb6.mono HL5.out.size)
   have HB6:=ZH (HB4.out.trans (h46.mono HB4.out.size))
   clear hb6 h46 y0 y1 y2 y3 HL5 HCK
   by_cases h0:E=0
   ·have e2:(E != 0)=false:=by rw[h0]; rfl
    have HY:=ZH (HFE.out.2.1 h0)
    clear h0
    go_wp2_with fail
    go_roundg (2-(k+1))
    case measure=>have:=HFE.out.2.2; omega
    case rel=>exact ⟨k+1,by have:=HFE.out.2.2; omega,by first | (congr 1; done) | (congr 1; exact IntWalk.wrap64_in ((k:Int)+1) (by have:=HFE.out.2.2; omega)),HY,HB6⟩
   ·have e2:(E != 0)=true:=by simpa using h0
    have HER:=ZH (ZN (HFE.out.1 h0) h0)
    clear h0
    go_wp2_with fail
    refine bodyPost_ret (v:=.tuple #[.int .i64 0,.int .i64 0,.int .i64 0,.int .i64 E]) (by simp[results,Tryz.results32,go_sem]) rfl ⟨fun _=>by rw[HER.out.1],fun hz=>absurd (HER.out.1.symm.trans hz) HER.out.2,HAL.out.trans ((HB1.out.trans (HB6.out.mono HB1.out.size)).mono HAL.out.size)⟩
  ·have e1:((k:Int)<2)=False:=eq_false (by omega)
   have h1:dimsErr [h]=0:=hno.out 0 (by omega)
   have h2:dimsErr [s]=0:=hno.out 1 (by omega)
   have h3:=fine_dim h1
   have h4:=fine_dim h2
   have HZ:=ZH (show fitErr h s=0 by unfold fitErr; rw[if_neg (by simp[h1]),h2])
   have HFD:=ZH (ZN h3 h4)
   have hr1:=mRange_wide (W:=wr) h (by omega) (by omega) (by omega)
   have hr2:=fun (W:World)=>mRange_wide (W:=W) s (by omega) (by omega) (by omega)
   unfold dmV at hr1 hr2
   have HR1:=ZH hr1
   have HR2:=ZH hr2
   have HK2:=ZH (ZN ((hbw.out.block ba (ZL HK1.out.1)).trans HK1.out.1) ((hbw.out.block bb (ZL HK1.out.2)).trans HK1.out.2))
   have HB2:=ZH (HAL.out.trans ((HB1.out.trans (hbw.out.mono HB1.out.size)).mono HAL.out.size))
   obtain ⟨x0,x1,x2,x3⟩:=cells4 (ZR _ wr) HK2.out.1
   clear hno hbw h1 h2 h3 h4 hr1 hr2
   go_wp2_with fail
   refine HR1.out.mono ?_
   rintro e w3 ⟨rfl,hb3⟩
   obtain ⟨y0,y1,y2,y3⟩:=cells4 hb3 HK2.out.2
   have HB3:=ZH (HB2.out.trans (hb3.mono HB2.out.size))
   have HR3:=ZH (HR2.out w3)
   clear hb3 x0 x1 x2 x3
   go_wp2_with fail
   refine HR3.out.mono ?_
   rintro e w4 ⟨rfl,hb4⟩
   have HB4:=ZH (HB3.out.trans (hb4.mono HB3.out.size))
   have hl:leastC h s=h.nominal+h.lower-(s.nominal+s.upper):=rfl
   have hm:mostC h s=h.nominal+h.upper-(s.nominal+s.lower):=rfl
   have v1:IntKind.i64.wrap (h.nominal+h.lower-(s.nominal+s.upper))=h.nominal+h.lower-(s.nominal+s.upper):=IntWalk.i64_in _ (by have:=HFD.out; omega)
   have v2:IntKind.i64.wrap (h.nominal+h.upper-(s.nominal+s.lower))=h.nominal+h.upper-(s.nominal+s.lower):=IntWalk.i64_in _ (by have:=HFD.out; omega)
   rw[←hl] at v1
   rw[←hm] at v2
   have HLM:=ZH (ZN hl hm)
   clear hb4 y0 y1 y2 y3 HR1 HR2 HR3
   generalize h.nominal+h.lower=A1 at *
   generalize h.nominal+h.upper=A2 at *
   generalize s.nominal+s.lower=A3 at *
   generalize s.nominal+s.upper=A4 at *
   rw[hl] at v1
   rw[hm] at v2
   by_cases c1:0≤leastC h s
   ·have f1:(A4≤A1)=True:=eq_true (by rw[hl] at c1; omega)
    have HKD:=ZH (show kindOf (leastC h s) (mostC h s)=1 by unfold kindOf; rw[if_pos c1])
    clear c1 hl hm
    go_wp2_with fail
    exact bodyPost_ret (v:=.tuple #[.int .i64 1,.int .i64 (A1-A4),.int .i64 (A2-A3),.int .i64 0]) (by simp[results,Tryz.results32,go_sem]) rfl ⟨fun hz=>absurd HZ.out hz,fun _=>by rw[HKD.out,HLM.out.1,HLM.out.2],HB4.out⟩
   ·have f1:(A4≤A1)=False:=eq_false (by rw[hl] at c1; omega)
    by_cases c2:mostC h s≤0
    ·have f2:(A2-A3≤0)=True:=eq_true (by rw[←hm]; exact c2)
     have HKD:=ZH (show kindOf (leastC h s) (mostC h s)=3 by unfold kindOf; rw[if_neg c1,if_pos c2])
     clear c1 c2 hl hm
     go_wp2_with fail
     exact bodyPost_ret (v:=.tuple #[.int .i64 3,.int .i64 (A1-A4),.int .i64 (A2-A3),.int .i64 0]) (by simp[results,Tryz.results32,go_sem]) rfl ⟨fun hz=>absurd HZ.out hz,fun _=>by rw[HKD.out,HLM.out.1,HLM.out.2],HB4.out⟩
    ·have f2:(A2-A3≤0)=False:=eq_false (by rw[←hm]; exact c2)
     have HKD:=ZH (show kindOf (leastC h s) (mostC h s)=2 by unfold kindOf; rw[if_neg c1,if_neg c2])
     clear c1 c2 hl hm
     go_wp2_with fail
     exact bodyPost_ret (v:=.tuple #[.int .i64 2,.int .i64 (A1-A4),.int .i64 (A2-A3),.int .i64 0]) (by simp[results,Tryz.results32,go_sem]) rfl ⟨fun hz=>absurd HZ.out hz,fun _=>by rw[HKD.out,HLM.out.1,HLM.out.2],HB4.out⟩
end Go.Proofs.YtdcaaehapdhckaaGreatDoor
set_option maxRecDepth 100000
namespace Go.Proofs.YtdcaaehapdhckaaGreatDoor
open Go.RowKit Go.Num Go.Flow
open Go.Gx (LF GEx Over Overs linOf dep bnd Den Dens LD M2 wt)
set_option maxHeartbeats 4000000

def exH : Dm:=⟨⟨#[104]⟩,20000,0,21⟩
def exS : Dm:=⟨⟨#[115]⟩,20000,-20,-7⟩
def exA : Dm:=⟨⟨#[97]⟩,2,-1,1⟩
theorem ex_fit : fitErr exH exS=0:=by kernel_rfl
theorem ex_least : leastC exH exS=7:=by kernel_rfl
theorem ex_most : mostC exH exS=41:=by kernel_rfl
def exF : LF:=⟨0,[1]⟩
def exX : GEx:=.add [.form exF,.scale (-1) (.form exF)]
theorem ex_texts : formTexts exF = [(0,oneTxt)]:=by kernel_rfl
def leafX : Ex:=.mk 0 nilTxt [(0,oneTxt)] [] []
theorem ex_leaf : raw (.form exF)=leafX:=by
 rw[raw,ex_texts]
 show Ex.mk 0 (numText 0) _ [] []=_
 rw[num_zero]
 rfl
theorem ex_raw : raw exX=.mk 1 [] [] [] [leafX,.mk 2 [] [] (numText (-1)) [leafX]]:=by
 unfold exX
 rw[raw,raws,raws,raws,ex_leaf,raw,ex_leaf]
theorem ex_over : Over 1 exX:=by
 unfold exX
 rw[Over]
 refine ⟨by simp,?_⟩
 rw[Overs,Overs,Overs,Over,Over,Over]
 exact ⟨rfl,rfl,trivial⟩
theorem ex_lin : linOf 1 exX=some ⟨0,[0]⟩:=by kernel_rfl
theorem ex_lite : Lite exX:=by
 have hf:LD 20 exF:=⟨Go.Gx.m2_zero 20,fun r hr=>by
  have:r=1:=by simpa[exF] using hr
  rw[this]
  exact ⟨1048576,by kernel_rfl⟩⟩
 refine ⟨?_,of_decide_eq_true (by kernel_rfl)⟩
 unfold exX
 rw[Den,Dens,Dens,Dens,Den,Den]
 refine ⟨hf,⟨0,20,rfl,⟨-1,by kernel_rfl⟩,?_⟩,trivial⟩
 rw[Den]
 exact hf
theorem ex_fine : BndFine 1 [exA].length exX:=by
 refine ⟨ex_over,ex_lite,?_,?_,?_⟩
 ·unfold exX
  rw[UptoG,UptoGs,UptoGs,UptoGs,UptoG,UptoG,UptoG]
  exact ⟨upto_len (by simp[exF]),upto_len (by simp[exF]),trivial⟩
 ·unfold exX
  rw[NoAbs,NoAbss,NoAbss,NoAbss,NoAbs,NoAbs,NoAbs]
  exact ⟨trivial,trivial,trivial⟩
 ·unfold exX
  rw[bsz,bszs,bszs,bszs,bsz,bsz,bsz]
  simp[exF]
theorem ex_bnd : bnd (boxes [exA]) exX=(-2,2):=by kernel_rfl
theorem num_m2 : numText (-2) = [45,50]:=by kernel_rfl
theorem num_2 : numText 2 = [50]:=by kernel_rfl
theorem ex_zero : raw (.form ⟨0,[0]⟩)=.mk 0 nilTxt [] [] []:=by
 rw[raw,show formTexts ⟨0,[0]⟩ = [] by kernel_rfl]
 show Ex.mk 0 (numText 0) _ [] []=_
 rw[num_zero]
 rfl
end Go.Proofs.YtdcaaehapdhckaaGreatDoor
set_option maxRecDepth 100000
namespace Go.Proofs.YtdcaaehapdhckaaGreatDoor
open Go.RowKit Go.Num Go.Flow
open Go.Gx (LF GEx Over linOf dep bnd)
set_option maxHeartbeats 8000000
set_option linter.unusedVariables false

theorem pknown_any {w:World} (hg:Glob w):Calls Tryz.prog 7 #[] w fun e w'=>e=.returned (.bool true)∧Below w.heap.size w w':=by
 have HG:=ZH hg
 have hft:=mFit_any (w:=w) exH exS
 rw[ex_least,ex_most] at hft
 unfold dmV exH exS at hft
 have HFT:=ZH hft
 clear hg hft
 go_enter Tryz.func7,Tryz.ntmps7
 go_wp2_with fail
 refine HFT.out.mono ?_
 rintro e w1 ⟨-,h1,hb1⟩
 obtain rfl:=h1 ex_fit
 have HB1:=ZH hb1
 clear h1 hb1 HFT
 go_wp2_with fail
 refine (psingle_any 0).mono ?_
 rintro e w2 ⟨v2,rfl,hx2,hb2⟩
 obtain ⟨s0,s1,ta,tn,tc,aa,an,ac,rfl⟩:=ex_shape hx2
 have HX2:=ZH hx2
 have HB2:=ZH (HB1.out.trans (hb2.mono HB1.out.size))
 clear hx2 hb2
 go_wp2_with fail
 refine (psingle_any 0).mono ?_
 rintro e w3 ⟨v3,rfl,hx3,hb3⟩
 obtain ⟨r0,r1,ra,rn,rc,qa,qn,qc,rfl⟩:=ex_shape hx3
 have HX3:=ZH (ZN (HX2.out.below hb3) hx3)
 have HB3:=ZH (HB2.out.trans (hb3.mono HB2.out.size))
 clear hx3 hb3 HX2
 go_wp2_with fail
 refine (ratFrom_any (by omega) (by omega)).mono ?_
 rintro e w4 ⟨v4,rfl,hr4,hb4⟩
 have hr4:RtIn w4 v4 (-1) 2:=hr4
 have HX4:=ZH (ZN (HX3.out.1.below hb4) (HX3.out.2.below hb4))
 have HB4:=ZH (HB3.out.trans (hb4.mono HB3.out.size))
 have HT4:=ZH (ptimes_any (HG.out.below HB4.out) HX4.out.2 hr4 (by omega))
 clear hr4 hb4 HX3
 go_wp2_with fail
 refine HT4.out.mono ?_
 rintro e w5 ⟨v5,rfl,hx5,hb5⟩
 obtain ⟨u0,u1,ua,un,uc,ya,yn,yc,rfl⟩:=ex_shape hx5
 have HX5:=ZH (ZN (HX4.out.1.below hb5) hx5)
 have HB5:=ZH (HB4.out.trans (hb5.mono HB4.out.size))
 clear hx5 hb5 HX4 HT4
 simp only[Ex.op] at *
 go_upto_region 3 with fail
 obtain ⟨w6,b1,b2,hw6,hb1',hb2',hl6,k1,k2⟩:=new_two w5 #[.int .i64 0,.string s0,.slice ta tn tc,.string s1,.slice aa an ac,.int .i64 2,.string u0,.slice ua un uc,.string u1,.slice ya yn yc] #[.int .i64 1,.string ⟨#[]⟩,.slice none 0 0,.string ⟨#[]⟩,.slice (some ⟨w5.heap.size,0,none⟩) 2 2] 30 30
 rw[←hw6,←hb2',←hb1']
 rw[←hb1'] at k2
 have hxx:ExIn w6 (raw exX) (.agg #[.int .i64 1,.string ⟨#[]⟩,.slice none 0 0,.string ⟨#[]⟩,.slice (some ⟨b1,0,none⟩) 2 2]):=by
  rw[ex_raw]
  exact ExIn.of (x:=.mk 1 [] [] [] [leafX,.mk 2 [] [] (numText (-1)) [leafX]]) (termsZ_none w6) (exs_two k1 (HX5.out.1.below hl6) (HX5.out.2.below hl6))
 have HB6:=ZH (HB5.out.trans (hl6.mono HB5.out.size))
 have HK6:=ZH (ZN k2 hxx)
 obtain ⟨x0,x1,x2,x3,x4⟩:=cells5 (ZR _ w6) k2
 clear hw6 hb1' hb2' hl6 k1 k2 hxx HX5
 obtain ⟨w7,hw7⟩:∃x,x=w6.alloc (.cells #[.string ⟨#[97]⟩,.int .i64 2,.int .i64 (-1),.int .i64 1] 70):=⟨_,rfl⟩
 have hl7:Below w6.heap.size w6 w7:=by rw[hw7]; exact (ZR _ w6).alloc (Nat.le_refl _) _
 have hda:DimsIn w7 (some ⟨w6.heap.size,0,none⟩) 1 [exA]:=by rw[hw7]; exact dims_one (d:=exA) (ZW w6 _)
 have hbo:=mBounds_any (n:=1) (by omega) (D:=[exA]) (fun j hj=>by
  obtain rfl:j=0:=by simpa using hj
  simp[exA]) (dep exX) exX (Nat.le_refl _) ex_fine w7 _ _ _ (HG.out.below (HB6.out.trans (hl7.mono HB6.out.size))) hda (HK6.out.2.below hl7)
 unfold BndPost at hbo
 rw[ex_bnd] at hbo
 simp only[List.length_cons,List.length_nil,Nat.zero_add] at hbo
 have HBO:=ZH hbo
 have HL7:=ZH hl7
 have hb67:∀W,Below w7.heap.size w7 W→Below w6.heap.size w6 W:=fun W h=>HL7.out.trans (h.mono HL7.out.size)
 rw[hw7] at HBO hb67
 have HB67:=ZH hb67
 clear hw7 hl7 hda hbo hb67 HL7
 go_wp2_with fail
 refine HBO.out.mono ?_
 rintro e w8 ⟨lo,hi,rfl,hlo,hhi,hb8⟩
 obtain ⟨p1,c1,d1,l1,p2,c2,d2,l2,rfl⟩:=rt_shape hlo
 obtain ⟨p3,c3,d3,l3,p4,c4,d4,l4,rfl⟩:=rt_shape hhi
 have hb68:=HB67.out w8 hb8
 have HR8:=ZH (show RtIn w8 (.agg #[.bool p1,.slice c1 d1 l1,.bool p2,.slice c2 d2 l2]) (-2) (bsz exX)∧RtIn w8 (.agg #[.bool p3,.slice c3 d3 l3,.bool p4,.slice c4 d4 l4]) 2 (bsz exX) from ⟨hlo,hhi⟩)
 have HB8:=ZH (HB6.out.trans (hb68.mono HB6.out.size))
 have HK8:=ZH (ZN ((hb68.block b2 (ZL HK6.out.1)).trans HK6.out.1) (HK6.out.2.below hb68))
 clear x0 x1 x2 x3 x4 hlo hhi hb8 hb68 HB67 HBO HK6
 go_upto_region 4 with fail
 obtain ⟨w9,b6,b7,hw9,hb6,hb7,hl9,k6,k7⟩:=new_two w8 #[.bool p1,.slice c1 d1 l1,.bool p2,.slice c2 d2 l2] #[.bool p3,.slice c3 d3 l3,.bool p4,.slice c4 d4 l4] 47 47
 rw[←hw9,←hb7,←hb6]
 have HK9:=ZH (ZN k6 (ZN k7 (ZN ((hl9.block b2 (ZL HK8.out.1)).trans HK8.out.1) (HK8.out.2.below hl9))))
 have HB9:=ZH (HB8.out.trans (hl9.mono HB8.out.size))
 have hn1:=Number_any (HR8.out.1.below hl9) (by have:=ex_fine.size; omega) (HG.out.below HB9.out)
 have HR9:=ZH (HR8.out.2.below hl9)
 rw[num_m2] at hn1
 have HN1:=ZH hn1
 obtain ⟨x0,x1,x2,x3⟩:=cells4 (ZR _ w9) k6
 have e1:((⟨#[45,50]⟩:ByteArray).toList==(⟨#[45,50]⟩:ByteArray).toList)=true:=beq_self_eq_true _
 have e2:((⟨#[50]⟩:ByteArray).toList==(⟨#[50]⟩:ByteArray).toList)=true:=beq_self_eq_true _
 clear hw9 hb6 hb7 hl9 k6 k7 hn1 HR8 HK8
 go_wp2_with fail
 refine HN1.out.mono ?_
 rintro e wa ⟨rfl,hba⟩
 have hn2:=Number_any (HR9.out.below hba) (by have:=ex_fine.size; omega) (HG.out.below (HB9.out.trans (hba.mono HB9.out.size)))
 rw[num_2] at hn2
 have HN2:=ZH hn2
 have HBA:=ZH (HB9.out.trans (hba.mono HB9.out.size))
 obtain ⟨y0,y1,y2,y3⟩:=cells4 hba HK9.out.2.1
 have HKA:=ZH (ZN ((hba.block b2 (ZL HK9.out.2.2.1)).trans HK9.out.2.2.1) (HK9.out.2.2.2.below hba))
 clear x0 x1 x2 x3 hn2 hba HN1 HK9 HR9
 go_wp2_with fail
 refine HN2.out.mono ?_
 rintro e wb ⟨rfl,hbb⟩
 have HBB:=ZH (HBA.out.trans (hbb.mono HBA.out.size))
 have HNO:=ZH (mNormal_lin (n:=1) (by omega) ex_over ex_lite ex_lin (HG.out.below HBB.out) (HKA.out.2.below hbb))
 obtain ⟨x0,x1,x2,x3,x4⟩:=cells5 hbb HKA.out.1
 clear y0 y1 y2 y3 hbb HN2 HKA
 go_wp2_with fail
 refine HNO.out.mono ?_
 rintro e wc ⟨nv,rfl,hxn,hbc⟩
 rw[ex_zero] at hxn
 have HBC:=ZH (HBB.out.trans (hbc.mono HBB.out.size))
 have hy:ExIn wc (.mk 0 nilTxt [] [] []) (.agg #[.int .i64 0,.string ⟨#[48]⟩,.slice none 0 0,.string ⟨#[]⟩,.slice none 0 0]):=ExIn.of (x:=.mk 0 nilTxt [] [] []) (termsZ_none wc) (exs_none wc)
 have HEQ:=ZH (mEqual_leaf hxn hy rfl rfl (by simp[Ex.t]))
 clear x0 x1 x2 x3 x4 hxn hbc hy HNO
 go_wp2_with fail
 refine HEQ.out.mono ?_
 rintro e wd ⟨rfl,hbd⟩
 have HBD:=ZH (HBC.out.trans (hbd.mono HBC.out.size))
 have hle:leafEq (.mk 0 nilTxt [] [] []) (.mk 0 nilTxt [] [] [])=true:=by kernel_rfl
 rw[hle]
 clear hbd HEQ hle
 go_wp2_with fail
 go_ret
 exact ⟨rfl,HBD.out⟩
end Go.Proofs.YtdcaaehapdhckaaGreatDoor
