/- Equality of dimensions and of terms. -/
import Derived.Laws.StructEq
import Derived.Deep.LoopGhost
import Derived.Test.YtdgimcmappmjdaaGreatDoorK3
import Derived.Test.YtdgimcmappmjdaaGreatDoorMBoundsM
import Derived.Deep.QuietTactic
import Derived.BigQuiet
set_option linter.unusedSimpArgs false
set_option linter.unusedVariables false
set_option maxRecDepth 100000
namespace Go.Proofs.YtdgimcmappmjdaaGreatDoor
open Go.RowKit Go.Num Go.Flow Go.Dtm
set_option maxHeartbeats 4000000

theorem term_struct : Tryz.prog.underlying 118=some (.struct (Tryz.prog.fieldsOf 118)):=by kernel_rfl
theorem term_stood : Tryz.prog.stoodInHeld 118=false:=by kernel_rfl
theorem term_guard : Tryz.prog.eqGuardType Tryz.prog.depth 118=false:=by kernel_rfl
theorem neq_term (x y:Int) (s t:ByteArray) (w:World):(binOp .neq 118 (.agg #[.int .i64 x,.string s]) (.agg #[.int .i64 y,.string t])).run Tryz.prog w=.ok (.bool (!((x==y)&&(s.toList==t.toList)))) w:=by
 rw[run_neq_struct,run_equalIn_agg w 9999 118 _ _ term_struct term_stood]
 unfold Program.fieldsOf
 rw[Tryz.underlying118]
 cases h0:x==y<;>cases h1:s.toList==t.toList<;>simp_all [go_sem,Tryz.underlying3]
open Go.RowKit Go.Num Go.Flow
set_option maxHeartbeats 8000000
def eqTermZ (p q:Int×List UInt8):Bool:=(p.1==q.1)&&(p.2==q.2)
theorem eqTermZ_iff {p q:Int×List UInt8}:eqTermZ p q=true↔p=q:=by
 unfold eqTermZ
 rw[Bool.and_eq_true,beq_iff_eq,beq_iff_eq]
 constructor
 ·intro h; exact Prod.ext h.1 h.2
 ·rintro rfl; exact ⟨rfl,rfl⟩
theorem same_listsZ {α:Type} [DecidableEq α] {l m:List α} (d:α) (hl:l.length=m.length) (h:∀j,j<l.length→l.getD j d=m.getD j d):l=m:=by
 apply List.ext_getElem hl
 intro j h1 h2
 have:=h j h1
 rw[List.getD_eq_getElem?_getD,List.getD_eq_getElem?_getD,List.getElem?_eq_getElem h1,List.getElem?_eq_getElem h2] at this
 exact this
theorem sEqTZ_any {w:World} {v1 v2:Value} {l m:List (Int×List UInt8)} (h1:TermsZ w v1 l) (h2:TermsZ w v2 m) (hsm:l.length≤1000000) :
  Calls Tryz.prog 111 #[v1,v2] w fun e w'=>e=.returned (.bool (decide (l=m)))∧Below w.heap.size w w':=by
 obtain ⟨a1,c1,rfl,p1,p2,p3⟩:=h1
 obtain ⟨a2,c2,rfl,q1,q2,q3⟩:=h2
 obtain ⟨n,hn⟩:∃n,n=l.length:=⟨_,rfl⟩
 obtain ⟨k,hk⟩:∃n,n=m.length:=⟨_,rfl⟩
 obtain ⟨R,hR⟩:∃x,x=decide (l=m):=⟨_,rfl⟩
 unfold maxLen at p2 q2
 rw[←hn] at p1 p3 hsm⊢
 rw[←hk] at q1 q3⊢
 rw[←hR]
 have P3:=ZH p3
 have Q3:=ZH q3
 have HR:=ZH hR
 have HN:=ZH (ZN hn hk)
 clear p3 q3 hR hn hk
 go_enter Tryz.func111,Tryz.ntmps111
 by_cases hnk:n=k
 ·subst hnk
  have e0:((n:Int)==(n:Int))=true:=by simp
  go_wp2_with fail
  go_loopw [13] (fun x wr=>∃i:Nat,i≤n∧x=.int .i64 i∧Hid (∀j,j<i→l.getD j (0,[])=m.getD j (0,[]))∧Hid (Below w.heap.size w wr)) (fun x _=>n-(intOf x).toNat)
  case atStart=>exact ⟨0,Nat.zero_le _,rfl,ZH (fun j hj=>absurd hj (by omega)),ZH (ZR _ _)⟩
  case round=>
   obtain ⟨i,hin,rfl,ac,aa⟩:=hrel
   by_cases hlt:i<n
   ·have e1:((i:Int)<(n:Int))=True:=eq_true (by omega)
    obtain ⟨b1,o1,rfl,-,ag⟩:=P3.out (by omega)
    obtain ⟨b2,o2,rfl,-,af⟩:=Q3.out (by omega)
    obtain ⟨x,hx⟩:∃q,q=l.getD i (0,[]):=⟨_,rfl⟩
    obtain ⟨y,hy⟩:∃q,q=m.getD i (0,[]):=⟨_,rfl⟩
    have h1:=ag i hlt
    have h2:=af i hlt
    rw[←hx] at h1
    rw[←hy] at h2
    have x0:=ZJ aa.out h1.1
    have x1:=ZJ aa.out h1.2
    have y0:=ZJ aa.out h2.1
    have y1:=ZJ aa.out h2.2
    have hi0:(0:Int)≤(i:Int):=by omega
    have hi1:(i:Int)<(n:Int):=by omega
    have ad:=ZH (ZN hx hy)
    clear hx hy h1 h2 ag af
    have ae:=neq_term x.1 y.1 ⟨x.2.toArray⟩ ⟨y.2.toArray⟩
    have hvg:=term_guard
    rw[toArray_list,toArray_list] at ae
    obtain ⟨q,hq⟩:∃q,q=((x.1==y.1)&&(x.2==y.2)):=⟨_,rfl⟩
    rw[←hq] at ae
    have HQ:=ZH hq
    clear hq
    go_upto_region 6 with fail
    go_quiet (fail)
    cases q with
    | true=>
     have hxy:x=y:=eqTermZ_iff.1 HQ.out.symm
     go_wp2_with fail
     refine ⟨⟨i+1,hlt,by congr 1,ZH fun j hj=>?_,ZH (aa.out.trans ((below_drawn wr _).mono aa.out.size))⟩,by simp[intOf]; omega⟩
     by_cases h:j<i
     ·exact ac.out j h
     ·obtain rfl:j=i:=by omega
      rw[←ad.out.1,←ad.out.2,hxy]
    | false=>
     have hR:R=false:=by
      rw[HR.out,decide_eq_false_iff_not]
      rintro rfl
      have:eqTermZ x y=true:=eqTermZ_iff.2 (by rw[ad.out.1,ad.out.2])
      unfold eqTermZ at this
      rw[←HQ.out] at this
      cases this
     go_wp2_with fail
     go_ret
     exact ⟨by rw[hR]; rfl,aa.out.trans ((below_drawn wr _).mono aa.out.size)⟩
   ·have e1:((i:Int)<(n:Int))=False:=eq_false (by omega)
    obtain rfl:i=n:=by omega
    have hR:R=true:=by
     rw[HR.out,decide_eq_true_iff]
     exact same_listsZ (0,[]) (by rw[←HN.out.1,HN.out.2]) (fun j hj=>ac.out j (by rw[HN.out.1]; exact hj))
    go_wp2_with fail
    go_ret
    exact ⟨by rw[hR]; rfl,aa.out⟩
 ·have e0:((n:Int)==(k:Int))=false:=ZQ.2 (by omega)
  have hR:R=false:=by
   rw[HR.out,decide_eq_false_iff_not]
   rintro rfl
   exact hnk (HN.out.1.trans HN.out.2.symm)
  go_wp2_with fail
  go_ret
  exact ⟨by rw[hR]; rfl,ZR _ _⟩
theorem sEqFE_nil {w:World} {a1 a2:Option Addr} {c1 c2:Nat} (f:Value):Calls Tryz.prog 112 #[.slice a1 0 c1,.slice a2 0 c2,f] w fun e w'=>e=.returned (.bool true)∧Below w.heap.size w w':=by
 go_enter Tryz.func112,Tryz.ntmps112
 go_wp2_with fail
 go_loopw [17] (fun x wr=>x=.int .i64 0∧Hid (Below w.heap.size w wr)) (fun x _=>0)
 case atStart=>exact ⟨rfl,ZH (ZR _ _)⟩
 case round=>
  obtain ⟨rfl,hbw⟩:=hrel
  go_wp2_with fail
  go_ret
  exact ⟨rfl,hbw.out⟩
def leafEq (x y:Ex):Bool:=(x.op==y.op)&&((x.f==y.f)&&((x.c==y.c)&&decide (x.t=y.t)))
theorem mEqual_leaf {w:World} {x y:Ex} {vx vy:Value} (hx:ExIn w x vx) (hy:ExIn w y vy) (h1:x.a = []) (h2:y.a = []) (hsm:x.t.length≤1000000):Calls Tryz.prog 57 #[vx,vy] w fun e w'=>e=.returned (.bool (leafEq x y))∧Below w.heap.size w w':=by
 obtain ⟨tx,ax,cx,rfl,ae,-⟩:=hx.out
 obtain ⟨ty,ay,cy,rfl,ag,-⟩:=hy.out
 rw[h1,h2]
 obtain ⟨ar,aq,rfl,-⟩:=id ae
 obtain ⟨au,aB,rfl,-⟩:=id ag
 obtain ⟨sx,an⟩:∃s:ByteArray,s=⟨x.c.toArray⟩:=⟨_,rfl⟩
 obtain ⟨sy,ai⟩:∃s:ByteArray,s=⟨y.c.toArray⟩:=⟨_,rfl⟩
 obtain ⟨fx,aj⟩:∃s:ByteArray,s=⟨x.f.toArray⟩:=⟨_,rfl⟩
 obtain ⟨fy,ak⟩:∃s:ByteArray,s=⟨y.f.toArray⟩:=⟨_,rfl⟩
 obtain ⟨nx,aw⟩:∃q,q=x.t.length:=⟨_,rfl⟩
 obtain ⟨ny,az⟩:∃q,q=y.t.length:=⟨_,rfl⟩
 rw[←aw] at ae⊢
 rw[←az] at ag⊢
 rw[←an,←ai,←aj,←ak]
 obtain ⟨ox,am⟩:∃q,q=x.op:=⟨_,rfl⟩
 obtain ⟨oy,al⟩:∃q,q=y.op:=⟨_,rfl⟩
 rw[←am,←al]
 simp only[List.length_nil]
 obtain ⟨wa,bx,by',ap,ao,aA,af,k0,k1⟩:=new_two w #[.int .i64 ox,.string sx,.slice ar nx aq,.string fx,.slice ax 0 cx] #[.int .i64 oy,.string sy,.slice au ny aB,.string fy,.slice ay 0 cy] 63 63
 have e2:(fx.toList==fy.toList)=(x.f==y.f):=by rw[aj,ak,toArray_list,toArray_list]
 have e3:(sx.toList==sy.toList)=(x.c==y.c):=by rw[an,ai,toArray_list,toArray_list]
 have HE:=ZH (show leafEq x y=((ox==oy)&&((fx.toList==fy.toList)&&((sx.toList==sy.toList)&&decide (x.t=y.t)))) by rw[e2,e3,am,al]; rfl)
 obtain ⟨R,hR⟩:∃q,q=decide (x.t=y.t):=⟨_,rfl⟩
 have HT:=ZH (show ∀W,Below wa.heap.size wa W→Calls Tryz.prog 111 #[.slice ar nx aq,.slice au ny aB] W fun e w'=>e=.returned (.bool R)∧Below W.heap.size W w' from fun W hb=>by
  rw[hR]
  exact sEqTZ_any ((ae.below af).below hb) ((ag.below af).below hb) hsm)
 rw[←hR] at HE
 obtain ⟨ah,ad⟩:∃q,q=leafEq x y:=⟨_,rfl⟩
 rw[←ad] at HE⊢
 have aa:=ZH af
 have HK:=ZH (ZN k0 k1)
 have HW:=ZH (ZN ap (ZN ao aA))
 obtain ⟨x0,x1,x2,x3,x4⟩:=cells5 (ZR _ wa) k0
 obtain ⟨y0,y1,y2,y3,y4⟩:=cells5 (ZR _ wa) k1
 clear ap ao aA af k0 k1 ae ag aw az an ai aj ak am al e2 e3 hR hx hy h1 h2 hsm ad
 go_enter Tryz.func57,Tryz.ntmps57
 go_upto_region 1 with fail
 rw[←HW.out.1,←HW.out.2.2,←HW.out.2.1]
 clear HW
 cases q1:(ox==oy) with
 | false=>
  have HA:=ZH (show ah=false by rw[HE.out,q1]; rfl)
  go_wp2_with fail
  go_ret
  exact ⟨by rw[HA.out]; rfl,aa.out⟩
 | true=>
  cases q2:(fx.toList==fy.toList) with
  | false=>
   have HA:=ZH (show ah=false by rw[HE.out,q1,q2]; rfl)
   go_wp2_with fail
   go_ret
   exact ⟨by rw[HA.out]; rfl,aa.out⟩
  | true=>
   cases q3:(sx.toList==sy.toList) with
   | false=>
    have HA:=ZH (show ah=false by rw[HE.out,q1,q2,q3]; rfl)
    go_wp2_with fail
    go_ret
    exact ⟨by rw[HA.out]; rfl,aa.out⟩
   | true=>
    have HA:=ZH (show ah=R by rw[HE.out,q1,q2,q3]; rfl)
    have HT0:=ZH (HT.out wa (ZR _ _))
    go_wp2_with fail
    refine HT0.out.mono ?_
    rintro e w3 ⟨rfl,ac⟩
    cases R with
    | false=>
     have HB:=ZH (aa.out.trans (ac.mono aa.out.size))
     clear ac
     go_wp2_with fail
     go_ret
     exact ⟨by rw[HA.out]; rfl,HB.out⟩
    | true=>
     obtain ⟨x0,x1,x2,x3,x4⟩:=cells5 ac HK.out.1
     obtain ⟨y0,y1,y2,y3,y4⟩:=cells5 ac HK.out.2
     have HB:=ZH (aa.out.trans (ac.mono aa.out.size))
     clear ac
     go_wp2_with fail
     refine (sEqFE_nil _).mono ?_
     rintro e w4 ⟨rfl,av⟩
     have HB4:=ZH (HB.out.trans (av.mono HB.out.size))
     clear av
     go_wp2_with fail
     go_ret
     exact ⟨by rw[HA.out]; rfl,HB4.out⟩
theorem dims_one {w:World} {b:Nat} {d:Dm} {t:TypeId} (h:w.heap[b]?=some (.cells #[.string d.name,.int .i64 d.nominal,.int .i64 d.lower,.int .i64 d.upper] t (0,0))):DimsIn w (some ⟨b,0,none⟩) 1 [d]:=by
 refine ⟨Nat.le_refl _,by unfold maxLen; omega,fun _=>⟨b,0,rfl,ZL h,fun j hj=>?_⟩⟩
 obtain rfl:j=0:=by simpa using hj
 exact ⟨ZI h 0,ZI h 1,ZI h 2,ZI h 3⟩
theorem dims_two {w:World} {b:Nat} {d e:Dm} {t:TypeId} (h:w.heap[b]?=some (.cells #[.string d.name,.int .i64 d.nominal,.int .i64 d.lower,.int .i64 d.upper,.string e.name,.int .i64 e.nominal,.int .i64 e.lower,.int .i64 e.upper] t (0,0))):DimsIn w (some ⟨b,0,none⟩) 2 [d,e]:=by
 refine ⟨Nat.le_refl _,by unfold maxLen; omega,fun _=>⟨b,0,rfl,ZL h,fun j hj=>?_⟩⟩
 have hj:j<2:=hj
 match j,hj with
 | 0,_=>exact ⟨ZI h 0,ZI h 1,ZI h 2,ZI h 3⟩
 | 1,_=>exact ⟨ZI h 4,ZI h 5,ZI h 6,ZI h 7⟩
theorem dimErr_one (d:Dm):dimsErr [d]=dimErr [d] 0:=by
 unfold dimsErr
 rw[if_neg (by simp)]
 simp only[List.length_cons,List.length_nil,Nat.zero_add,firstErr]
 split<;>simp_all
theorem fine_dim {d:Dm} (h:dimsErr [d]=0):isName d.name=true∧(-1073741824≤d.nominal∧d.nominal≤1073741824)∧(-1073741824≤d.lower∧d.lower≤1073741824)∧(-1073741824≤d.upper∧d.upper≤1073741824)∧d.lower≤d.upper:=by
 rw[dimErr_one] at h
 unfold dimErr at h
 simp only[List.getD_cons_zero] at h
 split at h
 ·omega
 ·next h1=>
  split at h
  ·omega
  ·next h2=>
   split at h
   ·omega
   ·next h3=>
    simp only[farM,Bool.or_eq_true,decide_eq_true_eq,not_or] at h2
    exact ⟨by simpa using h1,by omega,by omega,by omega,by omega⟩
def fitErr (h s:Dm):Int:=if dimsErr [h]≠0 then dimsErr [h] else dimsErr [s]
def leastC (h s:Dm):Int:=(h.nominal+h.lower)-(s.nominal+s.upper)
def mostC (h s:Dm):Int:=(h.nominal+h.upper)-(s.nominal+s.lower)
def kindOf (a b:Int):Int:=if 0≤a then 1 else if b≤0 then 3 else 2
theorem mRange_wide {W:World} (d:Dm) (h1:-2000000000≤d.nominal∧d.nominal≤2000000000) (h2:-2000000000≤d.lower∧d.lower≤2000000000) (h3:-2000000000≤d.upper∧d.upper≤2000000000) :
  Calls Tryz.prog 21 #[dmV d] W fun e w'=>e=.returned (.tuple #[.int .i64 (d.nominal+d.lower),.int .i64 (d.nominal+d.upper)])∧Below W.heap.size W w':=by
 unfold dmV
 obtain ⟨wa,aa⟩:∃x,x=W.alloc (.cells #[.string d.name,.int .i64 d.nominal,.int .i64 d.lower,.int .i64 d.upper] 23):=⟨_,rfl⟩
 obtain ⟨ba,ac⟩:∃x,x=W.heap.size:=⟨_,rfl⟩
 have ad:Below W.heap.size W wa:=by rw[aa]; exact (ZR _ W).alloc (Nat.le_refl _) _
 have k0:wa.heap[ba]?=some (.cells #[.string d.name,.int .i64 d.nominal,.int .i64 d.lower,.int .i64 d.upper] 23 (0,0)):=by rw[aa,ac]; exact ZW W _
 have s1:=ZI k0 1
 have s2:=ZI k0 2
 have s3:=ZI k0 3
 simp at s1 s2 s3
 have ae:=ZH ad
 have HW:=ZH (ZN aa ac)
 have w1:IntKind.i64.wrap (d.nominal+d.lower)=d.nominal+d.lower:=IntWalk.i64_in _ (by omega)
 have w2:IntKind.i64.wrap (d.nominal+d.upper)=d.nominal+d.upper:=IntWalk.i64_in _ (by omega)
 clear ad aa ac k0 h1 h2 h3
 go_enter Tryz.func21,Tryz.ntmps21
 go_upto_region 1 with fail
 rw[←HW.out.1,←HW.out.2]
 clear HW
 go_quiet (fail)
 go_wp2_with fail
 go_ret2
 exact ⟨rfl,ae.out.trans ((below_drawn wa _).mono ae.out.size)⟩
theorem mFit_any {w:World} (h s:Dm):Calls Tryz.prog 14 #[dmV h,dmV s] w fun e w'=>(fitErr h s≠0→e=.returned (.tuple #[.int .i64 0,.int .i64 0,.int .i64 0,.int .i64 (fitErr h s)]))∧(fitErr h s=0→e=.returned (.tuple #[.int .i64 (kindOf (leastC h s) (mostC h s)),.int .i64 (leastC h s),.int .i64 (mostC h s),.int .i64 0]))∧Below w.heap.size w w':=by
 unfold dmV
 obtain ⟨wa,ba,bb,aB,aP,ax,aD,k0,k1⟩:=new_two w #[.string h.name,.int .i64 h.nominal,.int .i64 h.lower,.int .i64 h.upper] #[.string s.name,.int .i64 s.nominal,.int .i64 s.lower,.int .i64 s.upper] 23 23
 have HW:=ZH (ZN aB (ZN aP ax))
 have HK:=ZH (ZN k0 k1)
 have al:=ZH aD
 obtain ⟨x0,x1,x2,x3⟩:=cells4 (ZR _ wa) k0
 obtain ⟨y0,y1,y2,y3⟩:=cells4 (ZR _ wa) k1
 clear aB aP ax aD k0 k1
 go_enter Tryz.func14,Tryz.ntmps14
 go_upto_region 1 with fail
 rw[←HW.out.1,←HW.out.2.2,←HW.out.2.1]
 clear HW
 go_upto_region 2 with fail
 obtain ⟨w1,b1,aQ,aC,ak,kb⟩:=new_box wa #[.string h.name,.int .i64 h.nominal,.int .i64 h.lower,.int .i64 h.upper,.string s.name,.int .i64 s.nominal,.int .i64 s.lower,.int .i64 s.upper] 23
 rw[←aQ,←aC]
 have HD:=ZH (dims_two kb)
 have an:=ZH ak
 have am:=ZH (ZN ((ak.block ba (ZL HK.out.1)).trans HK.out.1) ((ak.block bb (ZL HK.out.2)).trans HK.out.2))
 clear aQ aC ak kb x0 x1 x2 x3 y0 y1 y2 y3
 go_loopg [19] 2 (fun gk i wr=>∃k:Nat,k+gk=2∧i=.int .i64 k∧Hid (∀j,j<k→dimsErr [[h,s].getD j Dm.none]=0)∧Hid (Below w1.heap.size w1 wr))
 case atStart=>exact ⟨0,by omega,rfl,ZH (fun j hj=>by omega),ZH (ZR _ _)⟩
 case round=>
  obtain ⟨k,hk,rfl,af,aa⟩:=hrel
  by_cases hlt:k<2
  ·have e1:((k:Int)<2)=True:=eq_true (by omega)
   obtain ⟨g,o,ay,-,hc⟩:=HD.out.2.2 (by simp)
   simp only[Option.some.injEq,Addr.mk.injEq,and_true] at ay
   obtain ⟨rfl,rfl⟩:=ay
   have hx:=hc k (by simpa using hlt)
   obtain ⟨d,ah⟩:∃x,x = [h,s].getD k Dm.none:=⟨_,rfl⟩
   have aI:dimsErr [d]≠0→fitErr h s=dimsErr [d]:=fun hne=>by
    unfold fitErr
    rcases (show k=0∨k=1 by omega) with rfl | rfl
    ·have e:d=h:=ah
     rw[←e,if_pos hne]
    ·have e:d=s:=ah
     have h0:dimsErr [h]=0:=af.out 0 (by omega)
     rw[if_neg (by simp[h0]),e]
   have ag:dimsErr [d]=0→∀j,j<k+1→dimsErr [[h,s].getD j Dm.none]=0:=fun h0 j hj=>by
    by_cases e:j<k
    ·exact af.out j e
    ·obtain rfl:j=k:=by omega
     rw[←ah]
     exact h0
   rw[←ah] at hx
   simp only[Nat.zero_add] at hx
   have x0:=ZJ aa.out hx.1
   have x1:=ZJ aa.out hx.2.1
   have x2:=ZJ aa.out hx.2.2.1
   have x3:=ZJ aa.out hx.2.2.2
   have ad:=ZH (ZN aI (ZN ag hlt))
   have hk0:(0:Int)≤(k:Int):=by omega
   have hk1:(k:Int)<2:=by omega
   clear hc hx ah aI ag af hlt
   go_upto_region 4 with fail
   obtain ⟨w4,b4,aG,ai,aN,kd⟩:=new_box wr #[.string d.name,.int .i64 d.nominal,.int .i64 d.lower,.int .i64 d.upper] 23
   rw[←aG,←ai]
   have ao:=mCheck_any (D:=[d]) (dims_one (ZW w4 (.cells #[.string d.name,.int .i64 d.nominal,.int .i64 d.lower,.int .i64 d.upper] 23))) (by simp)
   simp only[List.length_cons,List.length_nil,Nat.zero_add] at ao
   obtain ⟨E,hE⟩:∃x,x=dimsErr [d]:=⟨_,rfl⟩
   rw[←hE] at ao ad
   have az:=ZH ao
   have ae:=ZH (aa.out.trans (aN.mono aa.out.size))
   have aq:=ZH (show Below w4.heap.size w4 (w4.alloc (.cells #[.string d.name,.int .i64 d.nominal,.int .i64 d.lower,.int .i64 d.upper] 23)) from (ZR _ w4).alloc (Nat.le_refl _) _)
   clear x0 x1 x2 x3
   obtain ⟨y0,y1,y2,y3⟩:=cells4 (ZR _ w4) kd
   clear aG ai aN kd hk0 hk1 ao hE aa
   go_wp2_with fail
   refine az.out.mono ?_
   rintro e w6 ⟨rfl,aA⟩
   have aK:=aq.out.trans (aA.mono aq.out.size)
   have aO:=ZH (ae.out.trans (aK.mono ae.out.size))
   clear aA aK y0 y1 y2 y3 aq az
   by_cases h0:E=0
   ·have e2:(E != 0)=false:=by rw[h0]; rfl
    have HY:=ZH (ad.out.2.1 h0)
    clear h0
    go_wp2_with fail
    go_roundg (2-(k+1))
    case measure=>have:=ad.out.2.2; omega
    case rel=>exact ⟨k+1,by have:=ad.out.2.2; omega,by first | (congr 1; done) | (congr 1; exact IntWalk.wrap64_in ((k:Int)+1) (by have:=ad.out.2.2; omega)),HY,aO⟩
   ·have e2:(E != 0)=true:=by simpa using h0
    have av:=ZH (ZN (ad.out.1 h0) h0)
    clear h0
    go_wp2_with fail
    refine bodyPost_ret (v:=.tuple #[.int .i64 0,.int .i64 0,.int .i64 0,.int .i64 E]) (by simp[results,Tryz.results14,go_sem]) rfl ⟨fun _=>by rw[av.out.1],fun hz=>absurd (av.out.1.symm.trans hz) av.out.2,al.out.trans ((an.out.trans (aO.out.mono an.out.size)).mono al.out.size)⟩
  ·have e1:((k:Int)<2)=False:=eq_false (by omega)
   have h1:dimsErr [h]=0:=af.out 0 (by omega)
   have h2:dimsErr [s]=0:=af.out 1 (by omega)
   have h3:=fine_dim h1
   have h4:=fine_dim h2
   have HZ:=ZH (show fitErr h s=0 by unfold fitErr; rw[if_neg (by simp[h1]),h2])
   have aM:=ZH (ZN h3 h4)
   have ar:=mRange_wide (W:=wr) h (by omega) (by omega) (by omega)
   have ap:=fun (W:World)=>mRange_wide (W:=W) s (by omega) (by omega) (by omega)
   unfold dmV at ar ap
   have aw:=ZH ar
   have aL:=ZH ap
   have aE:=ZH (ZN ((aa.out.block ba (ZL am.out.1)).trans am.out.1) ((aa.out.block bb (ZL am.out.2)).trans am.out.2))
   have aJ:=ZH (al.out.trans ((an.out.trans (aa.out.mono an.out.size)).mono al.out.size))
   obtain ⟨x0,x1,x2,x3⟩:=cells4 (ZR _ wr) aE.out.1
   clear af aa h1 h2 h3 h4 ar ap
   go_wp2_with fail
   refine aw.out.mono ?_
   rintro e w3 ⟨rfl,au⟩
   obtain ⟨y0,y1,y2,y3⟩:=cells4 au aE.out.2
   have aF:=ZH (aJ.out.trans (au.mono aJ.out.size))
   have aH:=ZH (aL.out w3)
   clear au x0 x1 x2 x3
   go_wp2_with fail
   refine aH.out.mono ?_
   rintro e w4 ⟨rfl,ai⟩
   have ae:=ZH (aF.out.trans (ai.mono aF.out.size))
   have hl:leastC h s=h.nominal+h.lower-(s.nominal+s.upper):=rfl
   have hm:mostC h s=h.nominal+h.upper-(s.nominal+s.lower):=rfl
   have v1:IntKind.i64.wrap (h.nominal+h.lower-(s.nominal+s.upper))=h.nominal+h.lower-(s.nominal+s.upper):=IntWalk.i64_in _ (by have:=aM.out; omega)
   have v2:IntKind.i64.wrap (h.nominal+h.upper-(s.nominal+s.lower))=h.nominal+h.upper-(s.nominal+s.lower):=IntWalk.i64_in _ (by have:=aM.out; omega)
   rw[←hl] at v1
   rw[←hm] at v2
   have ac:=ZH (ZN hl hm)
   clear ai y0 y1 y2 y3 aw aL aH
   generalize h.nominal+h.lower=A1 at *
   generalize h.nominal+h.upper=A2 at *
   generalize s.nominal+s.lower=A3 at *
   generalize s.nominal+s.upper=A4 at *
   rw[hl] at v1
   rw[hm] at v2
   by_cases c1:0≤leastC h s
   ·have f1:(A4≤A1)=True:=eq_true (by rw[hl] at c1; omega)
    have aj:=ZH (show kindOf (leastC h s) (mostC h s)=1 by unfold kindOf; rw[if_pos c1])
    clear c1 hl hm
    go_wp2_with fail
    exact bodyPost_ret (v:=.tuple #[.int .i64 1,.int .i64 (A1-A4),.int .i64 (A2-A3),.int .i64 0]) (by simp[results,Tryz.results14,go_sem]) rfl ⟨fun hz=>absurd HZ.out hz,fun _=>by rw[aj.out,ac.out.1,ac.out.2],ae.out⟩
   ·have f1:(A4≤A1)=False:=eq_false (by rw[hl] at c1; omega)
    by_cases c2:mostC h s≤0
    ·have f2:(A2-A3≤0)=True:=eq_true (by rw[←hm]; exact c2)
     have aj:=ZH (show kindOf (leastC h s) (mostC h s)=3 by unfold kindOf; rw[if_neg c1,if_pos c2])
     clear c1 c2 hl hm
     go_wp2_with fail
     exact bodyPost_ret (v:=.tuple #[.int .i64 3,.int .i64 (A1-A4),.int .i64 (A2-A3),.int .i64 0]) (by simp[results,Tryz.results14,go_sem]) rfl ⟨fun hz=>absurd HZ.out hz,fun _=>by rw[aj.out,ac.out.1,ac.out.2],ae.out⟩
    ·have f2:(A2-A3≤0)=False:=eq_false (by rw[←hm]; exact c2)
     have aj:=ZH (show kindOf (leastC h s) (mostC h s)=2 by unfold kindOf; rw[if_neg c1,if_neg c2])
     clear c1 c2 hl hm
     go_wp2_with fail
     exact bodyPost_ret (v:=.tuple #[.int .i64 2,.int .i64 (A1-A4),.int .i64 (A2-A3),.int .i64 0]) (by simp[results,Tryz.results14,go_sem]) rfl ⟨fun hz=>absurd HZ.out hz,fun _=>by rw[aj.out,ac.out.1,ac.out.2],ae.out⟩
open Go.Gx (LF GEx Over Overs linOf dep bnd Den Dens LD M2 wt)
def exH : Dm:=⟨⟨#[104]⟩,20000,0,21⟩
def exS : Dm:=⟨⟨#[115]⟩,20000,-20,-7⟩
def exA : Dm:=⟨⟨#[97]⟩,2,-1,1⟩
theorem ex_fit : fitErr exH exS=0:=by kernel_rfl
theorem ex_least : leastC exH exS=7:=by kernel_rfl
theorem ex_most : mostC exH exS=41:=by kernel_rfl
def exF : LF:=⟨0,[1]⟩
def exX : GEx:=.add [.form exF,.scale (-1) (.form exF)]
theorem ex_texts : formTexts exF = [(0,oneTxt)]:=by kernel_rfl
def leafX : Ex:=.mk 0 nilTxt [(0,oneTxt)] [] []
theorem ex_leaf : raw (.form exF)=leafX:=by
 rw[raw,ex_texts]
 show Ex.mk 0 (numText 0) _ [] []=_
 rw[num_zero]
 rfl
theorem ex_raw : raw exX=.mk 1 [] [] [] [leafX,.mk 2 [] [] (numText (-1)) [leafX]]:=by
 unfold exX
 rw[raw,raws,raws,raws,ex_leaf,raw,ex_leaf]
theorem ex_over : Over 1 exX:=by
 unfold exX
 rw[Over]
 refine ⟨by simp,?_⟩
 rw[Overs,Overs,Overs,Over,Over,Over]
 exact ⟨rfl,rfl,trivial⟩
theorem ex_lin : linOf 1 exX=some ⟨0,[0]⟩:=by kernel_rfl
theorem ex_lite : Lite exX:=by
 have hf:LD 20 exF:=⟨Go.Gx.m2_zero 20,fun r hr=>by
  have:r=1:=by simpa[exF] using hr
  rw[this]
  exact ⟨1048576,by kernel_rfl⟩⟩
 refine ⟨?_,of_decide_eq_true (by kernel_rfl)⟩
 unfold exX
 rw[Den,Dens,Dens,Dens,Den,Den]
 refine ⟨hf,⟨0,20,rfl,⟨-1,by kernel_rfl⟩,?_⟩,trivial⟩
 rw[Den]
 exact hf
theorem ex_fine : BndFine 1 [exA].length exX:=by
 refine ⟨ex_over,ex_lite,?_,?_,?_⟩
 ·unfold exX
  rw[UptoG,UptoGs,UptoGs,UptoGs,UptoG,UptoG,UptoG]
  exact ⟨upto_len (by simp[exF]),upto_len (by simp[exF]),trivial⟩
 ·unfold exX
  rw[NoAbs,NoAbss,NoAbss,NoAbss,NoAbs,NoAbs,NoAbs]
  exact ⟨trivial,trivial,trivial⟩
 ·unfold exX
  rw[bsz,bszs,bszs,bszs,bsz,bsz,bsz]
  simp[exF]
theorem ex_bnd : bnd (boxes [exA]) exX=(-2,2):=by kernel_rfl
theorem num_m2 : numText (-2) = [45,50]:=by kernel_rfl
theorem num_2 : numText 2 = [50]:=by kernel_rfl
theorem ex_zero : raw (.form ⟨0,[0]⟩)=.mk 0 nilTxt [] [] []:=by
 rw[raw,show formTexts ⟨0,[0]⟩ = [] by kernel_rfl]
 show Ex.mk 0 (numText 0) _ [] []=_
 rw[num_zero]
 rfl
open Go.Gx (LF GEx Over linOf dep bnd)
theorem pknown_any {w:World} (hg:Glob w):Calls Tryz.prog 13 #[] w fun e w'=>e=.returned (.bool true)∧Below w.heap.size w w':=by
 have HG:=ZH hg
 have aw:=mFit_any (w:=w) exH exS
 rw[ex_least,ex_most] at aw
 unfold dmV exH exS at aw
 have a0:=ZH aw
 clear hg aw
 go_enter Tryz.func13,Tryz.ntmps13
 go_wp2_with fail
 refine a0.out.mono ?_
 rintro e w1 ⟨-,h1,a6⟩
 obtain rfl:=h1 ex_fit
 have aZ:=ZH a6
 clear h1 a6 a0
 go_wp2_with fail
 refine (psingle_any 0).mono ?_
 rintro e w2 ⟨v2,rfl,aC,a5⟩
 obtain ⟨s0,s1,ta,tn,tc,aa,an,ac,rfl⟩:=ex_shape aC
 have aV:=ZH aC
 have bd:=ZH (aZ.out.trans (a5.mono aZ.out.size))
 clear aC a5
 go_wp2_with fail
 refine (psingle_any 0).mono ?_
 rintro e w3 ⟨v3,rfl,aK,aM⟩
 obtain ⟨r0,r1,ra,rn,rc,qa,qn,qc,rfl⟩:=ex_shape aK
 have aD:=ZH (ZN (aV.out.below aM) aK)
 have a7:=ZH (bd.out.trans (aM.mono bd.out.size))
 clear aK aM aV
 go_wp2_with fail
 refine (ratFrom_any (by omega) (by omega)).mono ?_
 rintro e w4 ⟨v4,rfl,aq,av⟩
 have aq:RtIn w4 v4 (-1) 2:=aq
 have aR:=ZH (ZN (aD.out.1.below av) (aD.out.2.below av))
 have aF:=ZH (a7.out.trans (av.mono a7.out.size))
 have a2:=ZH (ptimes_any (HG.out.below aF.out) aR.out.2 aq (by omega))
 clear aq av aD
 go_wp2_with fail
 refine a2.out.mono ?_
 rintro e w5 ⟨v5,rfl,aQ,aA⟩
 obtain ⟨u0,u1,ua,un,uc,ya,yn,yc,rfl⟩:=ex_shape aQ
 have aE:=ZH (ZN (aR.out.1.below aA) aQ)
 have a3:=ZH (aF.out.trans (aA.mono aF.out.size))
 clear aQ aA aR a2
 simp only[Ex.op] at *
 go_upto_region 3 with fail
 obtain ⟨w6,b1,b2,aT,ae,ao,ay,k1,k2⟩:=new_two w5 #[.int .i64 0,.string s0,.slice ta tn tc,.string s1,.slice aa an ac,.int .i64 2,.string u0,.slice ua un uc,.string u1,.slice ya yn yc] #[.int .i64 1,.string ⟨#[]⟩,.slice none 0 0,.string ⟨#[]⟩,.slice (some ⟨w5.heap.size,0,none⟩) 2 2] 63 63
 rw[←aT,←ao,←ae]
 rw[←ae] at k2
 have a4:ExIn w6 (raw exX) (.agg #[.int .i64 1,.string ⟨#[]⟩,.slice none 0 0,.string ⟨#[]⟩,.slice (some ⟨b1,0,none⟩) 2 2]):=by
  rw[ex_raw]
  exact ExIn.of (x:=.mk 1 [] [] [] [leafX,.mk 2 [] [] (numText (-1)) [leafX]]) (termsZ_none w6) (exs_two k1 (aE.out.1.below ay) (aE.out.2.below ay))
 have az:=ZH (a3.out.trans (ay.mono a3.out.size))
 have al:=ZH (ZN k2 a4)
 obtain ⟨x0,x1,x2,x3,x4⟩:=cells5 (ZR _ w6) k2
 clear aT ae ao ay k1 k2 a4 aE
 obtain ⟨w7,au⟩:∃x,x=w6.alloc (.cells #[.string ⟨#[97]⟩,.int .i64 2,.int .i64 (-1),.int .i64 1] 23):=⟨_,rfl⟩
 have ax:Below w6.heap.size w6 w7:=by rw[au]; exact (ZR _ w6).alloc (Nat.le_refl _) _
 have a1:DimsIn w7 (some ⟨w6.heap.size,0,none⟩) 1 [exA]:=by rw[au]; exact dims_one (d:=exA) (ZW w6 _)
 have ak:=mBounds_any (n:=1) (by omega) (D:=[exA]) (fun j hj=>by
  obtain rfl:j=0:=by simpa using hj
  simp[exA]) (dep exX) exX (Nat.le_refl _) ex_fine w7 _ _ _ (HG.out.below (az.out.trans (ax.mono az.out.size))) a1 (al.out.2.below ax)
 unfold BndPost at ak
 rw[ex_bnd] at ak
 simp only[List.length_cons,List.length_nil,Nat.zero_add] at ak
 have aO:=ZH ak
 have aH:=ZH ax
 have af:∀W,Below w7.heap.size w7 W→Below w6.heap.size w6 W:=fun W h=>aH.out.trans (h.mono aH.out.size)
 rw[au] at aO af
 have ai:=ZH af
 clear au ax a1 ak af aH
 go_wp2_with fail
 refine aO.out.mono ?_
 rintro e w8 ⟨lo,hi,rfl,aP,aS,a9⟩
 obtain ⟨p1,c1,d1,l1,p2,c2,d2,l2,rfl⟩:=rt_shape aP
 obtain ⟨p3,c3,d3,l3,p4,c4,d4,l4,rfl⟩:=rt_shape aS
 have ad:=ai.out w8 a9
 have aB:=ZH (show RtIn w8 (.agg #[.bool p1,.slice c1 d1 l1,.bool p2,.slice c2 d2 l2]) (-2) (bsz exX)∧RtIn w8 (.agg #[.bool p3,.slice c3 d3 l3,.bool p4,.slice c4 d4 l4]) 2 (bsz exX) from ⟨aP,aS⟩)
 have be:=ZH (az.out.trans (ad.mono az.out.size))
 have ar:=ZH (ZN ((ad.block b2 (ZL al.out.1)).trans al.out.1) (al.out.2.below ad))
 clear x0 x1 x2 x3 x4 aP aS a9 ad ai aO al
 go_upto_region 4 with fail
 obtain ⟨w9,b6,b7,bh,aW,bf,ah,k6,k7⟩:=new_two w8 #[.bool p1,.slice c1 d1 l1,.bool p2,.slice c2 d2 l2] #[.bool p3,.slice c3 d3 l3,.bool p4,.slice c4 d4 l4] 43 43
 rw[←bh,←bf,←aW]
 have am:=ZH (ZN k6 (ZN k7 (ZN ((ah.block b2 (ZL ar.out.1)).trans ar.out.1) (ar.out.2.below ah))))
 have aj:=ZH (be.out.trans (ah.mono be.out.size))
 have aJ:=Number_any (aB.out.1.below ah) (by have:=ex_fine.size; omega) (HG.out.below aj.out)
 have aX:=ZH (aB.out.2.below ah)
 rw[num_m2] at aJ
 have ba:=ZH aJ
 obtain ⟨x0,x1,x2,x3⟩:=cells4 (ZR _ w9) k6
 have e1:((⟨#[45,50]⟩:ByteArray).toList==(⟨#[45,50]⟩:ByteArray).toList)=true:=beq_self_eq_true _
 have e2:((⟨#[50]⟩:ByteArray).toList==(⟨#[50]⟩:ByteArray).toList)=true:=beq_self_eq_true _
 clear bh aW bf ah k6 k7 aJ aB ar
 go_wp2_with fail
 refine ba.out.mono ?_
 rintro e wa ⟨rfl,ag⟩
 have aG:=Number_any (aX.out.below ag) (by have:=ex_fine.size; omega) (HG.out.below (aj.out.trans (ag.mono aj.out.size)))
 rw[num_2] at aG
 have bc:=ZH aG
 have aU:=ZH (aj.out.trans (ag.mono aj.out.size))
 obtain ⟨y0,y1,y2,y3⟩:=cells4 ag am.out.2.1
 have aI:=ZH (ZN ((ag.block b2 (ZL am.out.2.2.1)).trans am.out.2.2.1) (am.out.2.2.2.below ag))
 clear x0 x1 x2 x3 aG ag ba am aX
 go_wp2_with fail
 refine bc.out.mono ?_
 rintro e wb ⟨rfl,ap⟩
 have aN:=ZH (aU.out.trans (ap.mono aU.out.size))
 have a8:=ZH (mNormal_lin (n:=1) (by omega) ex_over ex_lite ex_lin (HG.out.below aN.out) (aI.out.2.below ap))
 obtain ⟨x0,x1,x2,x3,x4⟩:=cells5 ap aI.out.1
 clear y0 y1 y2 y3 ap bc aI
 go_wp2_with fail
 refine a8.out.mono ?_
 rintro e wc ⟨nv,rfl,aL,bg⟩
 rw[ex_zero] at aL
 have bb:=ZH (aN.out.trans (bg.mono aN.out.size))
 have hy:ExIn wc (.mk 0 nilTxt [] [] []) (.agg #[.int .i64 0,.string ⟨#[48]⟩,.slice none 0 0,.string ⟨#[]⟩,.slice none 0 0]):=ExIn.of (x:=.mk 0 nilTxt [] [] []) (termsZ_none wc) (exs_none wc)
 have bj:=ZH (mEqual_leaf aL hy rfl rfl (by simp[Ex.t]))
 clear x0 x1 x2 x3 x4 aL bg hy a8
 go_wp2_with fail
 refine bj.out.mono ?_
 rintro e wd ⟨rfl,bi⟩
 have HBD:=ZH (bb.out.trans (bi.mono bb.out.size))
 have aY:leafEq (.mk 0 nilTxt [] [] []) (.mk 0 nilTxt [] [] [])=true:=by kernel_rfl
 rw[aY]
 clear bi bj aY
 go_wp2_with fail
 go_ret
 exact ⟨rfl,HBD.out⟩
end Go.Proofs.YtdgimcmappmjdaaGreatDoor
