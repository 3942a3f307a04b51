/- The law's empty and checkNode. -/
import Derived.Test.YtdcaaehapdhckaaGreatDoorEA
import Derived.Test.YtdcaaehapdhckaaGreatDoorEB
import Derived.Test.YtdcaaehapdhckaaGreatDoorKW
import Derived.Test.YtdcaaehapdhckaaGreatDoorEC
import Derived.Test.YtdcaaehapdhckaaGreatDoorFlow2M
set_option linter.unusedSimpArgs false
set_option linter.unusedVariables false
set_option maxRecDepth 100000
namespace Go.Proofs.YtdcaaehapdhckaaGreatDoor
open Go.RowKit Go.Num Go.Flow
set_option maxHeartbeats 8000000
set_option linter.unusedVariables false

theorem pempty_any {w:World} (s:ByteArray) (ta:Option Addr) (tn tc:Nat):Calls Tryz.prog 137 #[.agg #[.string s,.slice ta tn tc]] w fun e w'=>e=.returned (.bool (s.toList.isEmpty&&decide (tn=0)))∧Below w.heap.size w w':=by
 obtain ⟨wa,bx,hwa,hbx,hal,k0⟩:=new_box w #[.string s,.slice ta tn tc] 27
 have HAL:=ZH hal
 have HW:=ZH (ZN hwa hbx)
 obtain ⟨x0,x1⟩:=cells2 (ZR _ wa) k0
 clear hwa hbx hal k0
 go_enter Tryz.func137,Tryz.ntmps137
 go_upto_region 1 with fail
 rw[←HW.out.1,←HW.out.2]
 clear HW
 cases q:s.toList.isEmpty with
 | false=>
  go_wp2_with fail
  go_ret
  exact ⟨by rw[q]; rfl,HAL.out⟩
 | true=>
  by_cases htn:tn=0
  ·have e1:((tn:Int)==0)=true:=by simp; omega
   have e2:(tn==0)=true:=by simp; omega
   have e3:=ZH (ZT htn)
   clear htn
   go_wp2_with fail
   go_ret
   exact ⟨by rw[e3.out,q]; rfl,HAL.out⟩
  ·have e1:((tn:Int)==0)=false:=by simp; omega
   have e2:(tn==0)=false:=by simp; omega
   have e3:=ZH (ZU htn)
   clear htn
   go_wp2_with fail
   go_ret
   exact ⟨by rw[e3.out,q]; rfl,HAL.out⟩
theorem pcheckNode_any {w:World} (hg:Glob w) {x:Ex} {v:Value} (hx:ExIn w x v) (hc:x.c.length≤4294967280) (hf:x.f.length≤4294967280) (ht:∀p,p∈x.t→p.2.length≤4294967280) (n:Int) :
  Calls Tryz.prog 104 #[v,.int .i64 n] w fun e w'=>e=.returned (.int .i64 (nodeErr x n))∧Below w.heap.size w w':=by
 obtain ⟨tx,ax,cx,rfl,htx,hax⟩:=hx.out
 obtain ⟨tax,tcx,rfl,p1,p2,-⟩:=id htx
 obtain ⟨_,_,ee,r1,r2,-⟩:=id hax
 simp only[Value.slice.injEq] at ee
 obtain ⟨rfl,-,rfl⟩:=ee
 obtain ⟨sx,hsx⟩:∃s:ByteArray,s=⟨x.c.toArray⟩:=⟨_,rfl⟩
 obtain ⟨fx,hfx⟩:∃s:ByteArray,s=⟨x.f.toArray⟩:=⟨_,rfl⟩
 obtain ⟨tn,htn⟩:∃q,q=x.t.length:=⟨_,rfl⟩
 obtain ⟨an,han⟩:∃q,q=x.a.length:=⟨_,rfl⟩
 obtain ⟨ox,hox⟩:∃q,q=x.op:=⟨_,rfl⟩
 obtain ⟨E,hE⟩:∃q,q=nodeErr x n:=⟨_,rfl⟩
 obtain ⟨EM,hEM⟩:∃q,q=(sx.toList.isEmpty&&decide (tn=0)):=⟨_,rfl⟩
 unfold maxLen at p2 r2
 rw[←htn] at p1
 rw[←han] at r1
 have hcf:=fun (W:World) (hW:Below w.heap.size w W)=>pcheckForm_any (hg.below hW) (v:=.agg #[.string ⟨x.c.toArray⟩,.slice tax x.t.length tcx]) ⟨_,rfl,htx.below hW⟩ hc ht n
 have hnf:=fun (W:World) (hW:Below w.heap.size w W)=>pcheckNumber_any fx (by rw[hfx]; exact hf) (hg.below hW)
 have hem:=fun W:World=>pempty_any (w:=W) sx tax tn tcx
 rw[←hEM] at hem
 rw[←hE,←hsx,←hfx,←htn,←han,←hox]
 simp only[←hsx,←htn] at hcf
 obtain ⟨wa,bx,hwa,hbx,hal,k0⟩:=new_box w #[.int .i64 ox,.string sx,.slice tax tn tcx,.string fx,.slice ax an cx] 30
 have HCF:=ZH (fun (W:World) (hW:Below wa.heap.size wa W)=>hcf W (hal.trans (hW.mono hal.size)))
 have HNF:=ZH (fun (W:World) (hW:Below wa.heap.size wa W)=>hnf W (hal.trans (hW.mono hal.size)))
 have HEM:=ZH hem
 have HE:=ZH (show E=(if ox=0 then if an≠0∨fx.toList≠[] then 3 else formErr x.c x.t n else if ox=2 then if an≠1∨sx.toList≠[]∨tn≠0 then 3 else readErr fx.data.toList 400 else if ox=1∨ox=3∨ox=4 then if an=0∨sx.toList≠[]∨tn≠0∨fx.toList≠[] then 3 else 0 else if ox=5 then if an≠1∨sx.toList≠[]∨tn≠0∨fx.toList≠[] then 3 else 0 else 12) by
  rw[hE,hox,han,htn,hsx,hfx,toArray_list,toArray_list]
  rfl)
 have HEN:=ZH (show (EM=false→sx.toList≠[]∨tn≠0)∧(EM=true→sx.toList = []∧tn=0) by
  rw[hEM]
  constructor
  ·intro h
   rw[Bool.and_eq_false_iff] at h
   rcases h with h | h
   ·exact .inl (fun h2=>by rw[h2] at h; cases h)
   ·exact .inr (of_decide_eq_false h)
  ·intro h
   rw[Bool.and_eq_true] at h
   exact ⟨List.isEmpty_iff.1 h.1,of_decide_eq_true h.2⟩)
 have HAL:=ZH hal
 have HK:=ZH k0
 have HW:=ZH (ZN hwa hbx)
 obtain ⟨x0,x1,x2,x3,x4⟩:=cells5 (ZR _ wa) k0
 clear hwa hbx hal k0 htx hax hsx hfx htn han hox hE hx hcf hnf hc hf ht hg hEM hem
 go_enter Tryz.func104,Tryz.ntmps104
 go_upto_region 1 with fail
 rw[←HW.out.1,←HW.out.2]
 clear HW
 by_cases ok:ox=0
 ·have b0:(ox==0)=true:=by rw[ok]; rfl
  have b1:(ox==1)=false:=by rw[ok]; rfl
  have b2:(ox==2)=false:=by rw[ok]; rfl
  have b3:(ox==3)=false:=by rw[ok]; rfl
  have b4:(ox==4)=false:=by rw[ok]; rfl
  have b5:(ox==5)=false:=by rw[ok]; rfl
  have HO:=ZH ok
  clear ok
  by_cases han:an=0
  ·have e0:((an:Int)==0)=true:=by simp; omega
   have f0:((an:Int) != 0)=false:=by simp; omega
   have c0:(an==0)=true:=by simp; omega
   have d0:(an != 0)=false:=by simp; omega
   cases q:fx.toList.isEmpty with
   | false=>
    have HX:=ZH (show E=3 by rw[HE.out,if_pos HO.out,if_pos (Or.inr (fun h=>by rw[h] at q; cases q))])
    have HF:=HAL
    go_wp2_with fail
    go_ret
    exact ⟨by rw[HX.out]; rfl,HF.out⟩
   | true=>
    have hq:fx.toList = []:=List.isEmpty_iff.1 q
    have HX:=ZH (show E=formErr x.c x.t n by rw[HE.out,if_pos HO.out,if_neg (by rw[hq,han]; simp)])
    have HC0:=ZH (HCF.out wa (ZR _ _))
    go_wp2_with fail
    refine HC0.out.mono ?_
    rintro e w2 ⟨rfl,hb2⟩
    have HF:=ZH (HAL.out.trans (hb2.mono HAL.out.size))
    clear hb2
    go_wp2_with fail
    go_ret
    exact ⟨by rw[HX.out]; rfl,HF.out⟩
  ·have e0:((an:Int)==0)=false:=by simp; omega
   have f0:((an:Int) != 0)=true:=by simp; omega
   have c0:(an==0)=false:=by simp; omega
   have d0:(an != 0)=true:=by simp; omega
   have HX:=ZH (show E=3 by rw[HE.out,if_pos HO.out,if_pos (Or.inl han)])
   have HF:=HAL
   go_wp2_with fail
   go_ret
   exact ⟨by rw[HX.out]; rfl,HF.out⟩
 have HN0:=ZH ok
 by_cases ok2:ox=2
 ·have b0:(ox==0)=false:=by rw[ok2]; rfl
  have b1:(ox==1)=false:=by rw[ok2]; rfl
  have b2:(ox==2)=true:=by rw[ok2]; rfl
  have b3:(ox==3)=false:=by rw[ok2]; rfl
  have b4:(ox==4)=false:=by rw[ok2]; rfl
  have b5:(ox==5)=false:=by rw[ok2]; rfl
  have HO:=ZH ok2
  clear ok ok2
  by_cases han:an=1
  ·have e1:((an:Int)==1)=true:=by simp; omega
   have f1:((an:Int) != 1)=false:=by simp; omega
   have c1:(an==1)=true:=by simp; omega
   have d1:(an != 1)=false:=by simp; omega
   have HA1:=ZH han
   clear han
   go_wp2_with fail
   refine (HEM.out wa).mono ?_
   rintro e w2 ⟨rfl,hb2⟩
   have HB2:=ZH hb2
   have HF2:=ZH (HAL.out.trans (hb2.mono HAL.out.size))
   clear x0 x1 x2 x3 x4
   obtain ⟨x0,x1,x2,x3,x4⟩:=cells5 hb2 HK.out
   clear hb2
   cases EM with
   | false=>
    have HX:=ZH (show E=3 by rw[HE.out,if_neg HN0.out,if_pos HO.out,if_pos (Or.inr (HEN.out.1 rfl))])
    have HF:=HF2
    go_wp2_with fail
    go_ret
    exact ⟨by rw[HX.out]; rfl,HF.out⟩
   | true=>
    have HX:=ZH (show E=readErr fx.data.toList 400 by rw[HE.out,if_neg HN0.out,if_pos HO.out,if_neg (by rw[(HEN.out.2 rfl).1,(HEN.out.2 rfl).2,HA1.out]; simp)])
    have HC0:=ZH (HNF.out w2 HB2.out)
    go_wp2_with fail
    refine HC0.out.mono ?_
    rintro e w3 ⟨rfl,hb3⟩
    have HF:=ZH (HF2.out.trans (hb3.mono HF2.out.size))
    clear hb3
    go_wp2_with fail
    go_ret
    exact ⟨by rw[HX.out]; rfl,HF.out⟩
  ·have e1:((an:Int)==1)=false:=by simp; omega
   have f1:((an:Int) != 1)=true:=by simp; omega
   have c1:(an==1)=false:=by simp; omega
   have d1:(an != 1)=true:=by simp; omega
   have HX:=ZH (show E=3 by rw[HE.out,if_neg HN0.out,if_pos HO.out,if_pos (Or.inl han)])
   have HF:=HAL
   go_wp2_with fail
   go_ret
   exact ⟨by rw[HX.out]; rfl,HF.out⟩
 have HN2:=ZH ok2
 clear ok ok2
 by_cases ok:ox=1
 ·have b0:(ox==0)=false:=by rw[ok]; rfl
  have b1:(ox==1)=true:=by rw[ok]; rfl
  have b2:(ox==2)=false:=by rw[ok]; rfl
  have b3:(ox==3)=false:=by rw[ok]; rfl
  have b4:(ox==4)=false:=by rw[ok]; rfl
  have b5:(ox==5)=false:=by rw[ok]; rfl
  have HO:=ZH ok
  clear ok
  by_cases han:an=0
  ·have e0:((an:Int)==0)=true:=by simp; omega
   have f0:((an:Int) != 0)=false:=by simp; omega
   have c0:(an==0)=true:=by simp; omega
   have d0:(an != 0)=false:=by simp; omega
   have HX:=ZH (show E=3 by rw[HE.out,if_neg HN0.out,if_neg HN2.out,if_pos (Or.inl HO.out),if_pos (Or.inl han)])
   have HF:=HAL
   go_wp2_with fail
   go_ret
   exact ⟨by rw[HX.out]; rfl,HF.out⟩
  ·have e0:((an:Int)==0)=false:=by simp; omega
   have f0:((an:Int) != 0)=true:=by simp; omega
   have c0:(an==0)=false:=by simp; omega
   have d0:(an != 0)=true:=by simp; omega
   have HA0:=ZH han
   clear han
   go_wp2_with fail
   refine (HEM.out wa).mono ?_
   rintro e w2 ⟨rfl,hb2⟩
   have HB2:=ZH hb2
   have HF2:=ZH (HAL.out.trans (hb2.mono HAL.out.size))
   clear x0 x1 x2 x3 x4
   obtain ⟨x0,x1,x2,x3,x4⟩:=cells5 hb2 HK.out
   clear hb2
   cases EM with
   | false=>
    have HX:=ZH (show E=3 by rw[HE.out,if_neg HN0.out,if_neg HN2.out,if_pos (Or.inl HO.out),if_pos (Or.inr ((HEN.out.1 rfl).elim Or.inl (fun h=>Or.inr (Or.inl h))))])
    have HF:=HF2
    go_wp2_with fail
    go_ret
    exact ⟨by rw[HX.out]; rfl,HF.out⟩
   | true=>
    cases q:fx.toList.isEmpty with
    | false=>
     have HX:=ZH (show E=3 by rw[HE.out,if_neg HN0.out,if_neg HN2.out,if_pos (Or.inl HO.out),if_pos (Or.inr (Or.inr (Or.inr (fun h=>by rw[h] at q; cases q))))])
     have HF:=HF2
     go_wp2_with fail
     go_ret
     exact ⟨by rw[HX.out]; rfl,HF.out⟩
    | true=>
     have hq:fx.toList = []:=List.isEmpty_iff.1 q
     have HX:=ZH (show E=0 by rw[HE.out,if_neg HN0.out,if_neg HN2.out,if_pos (Or.inl HO.out),if_neg (by rw[(HEN.out.2 rfl).1,(HEN.out.2 rfl).2,hq]; simp; exact HA0.out)])
     have HF:=HF2
     go_wp2_with fail
     go_ret
     exact ⟨by rw[HX.out]; rfl,HF.out⟩
 have ok1':=ZH ok
 clear ok
 by_cases ok:ox=3
 ·have b0:(ox==0)=false:=by rw[ok]; rfl
  have b1:(ox==1)=false:=by rw[ok]; rfl
  have b2:(ox==2)=false:=by rw[ok]; rfl
  have b3:(ox==3)=true:=by rw[ok]; rfl
  have b4:(ox==4)=false:=by rw[ok]; rfl
  have b5:(ox==5)=false:=by rw[ok]; rfl
  have HO:=ZH ok
  clear ok
  by_cases han:an=0
  ·have e0:((an:Int)==0)=true:=by simp; omega
   have f0:((an:Int) != 0)=false:=by simp; omega
   have c0:(an==0)=true:=by simp; omega
   have d0:(an != 0)=false:=by simp; omega
   have HX:=ZH (show E=3 by rw[HE.out,if_neg HN0.out,if_neg HN2.out,if_pos (Or.inr (Or.inl HO.out)),if_pos (Or.inl han)])
   have HF:=HAL
   go_wp2_with fail
   go_ret
   exact ⟨by rw[HX.out]; rfl,HF.out⟩
  ·have e0:((an:Int)==0)=false:=by simp; omega
   have f0:((an:Int) != 0)=true:=by simp; omega
   have c0:(an==0)=false:=by simp; omega
   have d0:(an != 0)=true:=by simp; omega
   have HA0:=ZH han
   clear han
   go_wp2_with fail
   refine (HEM.out wa).mono ?_
   rintro e w2 ⟨rfl,hb2⟩
   have HB2:=ZH hb2
   have HF2:=ZH (HAL.out.trans (hb2.mono HAL.out.size))
   clear x0 x1 x2 x3 x4
   obtain ⟨x0,x1,x2,x3,x4⟩:=cells5 hb2 HK.out
   clear hb2
   cases EM with
   | false=>
    have HX:=ZH (show E=3 by rw[HE.out,if_neg HN0.out,if_neg HN2.out,if_pos (Or.inr (Or.inl HO.out)),if_pos (Or.inr ((HEN.out.1 rfl).elim Or.inl (fun h=>Or.inr (Or.inl h))))])
    have HF:=HF2
    go_wp2_with fail
    go_ret
    exact ⟨by rw[HX.out]; rfl,HF.out⟩
   | true=>
    cases q:fx.toList.isEmpty with
    | false=>
     have HX:=ZH (show E=3 by rw[HE.out,if_neg HN0.out,if_neg HN2.out,if_pos (Or.inr (Or.inl HO.out)),if_pos (Or.inr (Or.inr (Or.inr (fun h=>by rw[h] at q; cases q))))])
     have HF:=HF2
     go_wp2_with fail
     go_ret
     exact ⟨by rw[HX.out]; rfl,HF.out⟩
    | true=>
     have hq:fx.toList = []:=List.isEmpty_iff.1 q
     have HX:=ZH (show E=0 by rw[HE.out,if_neg HN0.out,if_neg HN2.out,if_pos (Or.inr (Or.inl HO.out)),if_neg (by rw[(HEN.out.2 rfl).1,(HEN.out.2 rfl).2,hq]; simp; exact HA0.out)])
     have HF:=HF2
     go_wp2_with fail
     go_ret
     exact ⟨by rw[HX.out]; rfl,HF.out⟩
 have ok3':=ZH ok
 clear ok
 by_cases ok:ox=4
 ·have b0:(ox==0)=false:=by rw[ok]; rfl
  have b1:(ox==1)=false:=by rw[ok]; rfl
  have b2:(ox==2)=false:=by rw[ok]; rfl
  have b3:(ox==3)=false:=by rw[ok]; rfl
  have b4:(ox==4)=true:=by rw[ok]; rfl
  have b5:(ox==5)=false:=by rw[ok]; rfl
  have HO:=ZH ok
  clear ok
  by_cases han:an=0
  ·have e0:((an:Int)==0)=true:=by simp; omega
   have f0:((an:Int) != 0)=false:=by simp; omega
   have c0:(an==0)=true:=by simp; omega
   have d0:(an != 0)=false:=by simp; omega
   have HX:=ZH (show E=3 by rw[HE.out,if_neg HN0.out,if_neg HN2.out,if_pos (Or.inr (Or.inr HO.out)),if_pos (Or.inl han)])
   have HF:=HAL
   go_wp2_with fail
   go_ret
   exact ⟨by rw[HX.out]; rfl,HF.out⟩
  ·have e0:((an:Int)==0)=false:=by simp; omega
   have f0:((an:Int) != 0)=true:=by simp; omega
   have c0:(an==0)=false:=by simp; omega
   have d0:(an != 0)=true:=by simp; omega
   have HA0:=ZH han
   clear han
   go_wp2_with fail
   refine (HEM.out wa).mono ?_
   rintro e w2 ⟨rfl,hb2⟩
   have HB2:=ZH hb2
   have HF2:=ZH (HAL.out.trans (hb2.mono HAL.out.size))
   clear x0 x1 x2 x3 x4
   obtain ⟨x0,x1,x2,x3,x4⟩:=cells5 hb2 HK.out
   clear hb2
   cases EM with
   | false=>
    have HX:=ZH (show E=3 by rw[HE.out,if_neg HN0.out,if_neg HN2.out,if_pos (Or.inr (Or.inr HO.out)),if_pos (Or.inr ((HEN.out.1 rfl).elim Or.inl (fun h=>Or.inr (Or.inl h))))])
    have HF:=HF2
    go_wp2_with fail
    go_ret
    exact ⟨by rw[HX.out]; rfl,HF.out⟩
   | true=>
    cases q:fx.toList.isEmpty with
    | false=>
     have HX:=ZH (show E=3 by rw[HE.out,if_neg HN0.out,if_neg HN2.out,if_pos (Or.inr (Or.inr HO.out)),if_pos (Or.inr (Or.inr (Or.inr (fun h=>by rw[h] at q; cases q))))])
     have HF:=HF2
     go_wp2_with fail
     go_ret
     exact ⟨by rw[HX.out]; rfl,HF.out⟩
    | true=>
     have hq:fx.toList = []:=List.isEmpty_iff.1 q
     have HX:=ZH (show E=0 by rw[HE.out,if_neg HN0.out,if_neg HN2.out,if_pos (Or.inr (Or.inr HO.out)),if_neg (by rw[(HEN.out.2 rfl).1,(HEN.out.2 rfl).2,hq]; simp; exact HA0.out)])
     have HF:=HF2
     go_wp2_with fail
     go_ret
     exact ⟨by rw[HX.out]; rfl,HF.out⟩
 have ok4':=ZH ok
 clear ok
 have HN3:=ZH (show ¬(ox=1∨ox=3∨ox=4) from fun h=>by have h1:=ok1'.out; have h3:=ok3'.out; have h4:=ok4'.out; omega)
 clear ok1' ok3' ok4'
 by_cases ok:ox=5
 ·have b0:(ox==0)=false:=by rw[ok]; rfl
  have b1:(ox==1)=false:=by rw[ok]; rfl
  have b2:(ox==2)=false:=by rw[ok]; rfl
  have b3:(ox==3)=false:=by rw[ok]; rfl
  have b4:(ox==4)=false:=by rw[ok]; rfl
  have b5:(ox==5)=true:=by rw[ok]; rfl
  have HO:=ZH ok
  clear ok
  by_cases han:an=0
  ·have e0:((an:Int)==0)=true:=by simp; omega
   have f0:((an:Int) != 0)=false:=by simp; omega
   have c0:(an==0)=true:=by simp; omega
   have d0:(an != 0)=false:=by simp; omega
   have HX:=ZH (show E=3 by rw[HE.out,if_neg HN0.out,if_neg HN2.out,if_neg HN3.out,if_pos HO.out,if_pos (Or.inl (by rw[han]; omega))])
   have HF:=HAL
   go_wp2_with fail
   go_ret
   exact ⟨by rw[HX.out]; rfl,HF.out⟩
  ·have e0:((an:Int)==0)=false:=by simp; omega
   have f0:((an:Int) != 0)=true:=by simp; omega
   have c0:(an==0)=false:=by simp; omega
   have d0:(an != 0)=true:=by simp; omega
   by_cases han1:an=1
   ·have e1:((an:Int)==1)=true:=by simp; omega
    have f1:((an:Int) != 1)=false:=by simp; omega
    have c1:(an==1)=true:=by simp; omega
    have d1:(an != 1)=false:=by simp; omega
    have HA0:=ZH han1
    clear han han1
    go_wp2_with fail
    refine (HEM.out wa).mono ?_
    rintro e w2 ⟨rfl,hb2⟩
    have HB2:=ZH hb2
    have HF2:=ZH (HAL.out.trans (hb2.mono HAL.out.size))
    clear x0 x1 x2 x3 x4
    obtain ⟨x0,x1,x2,x3,x4⟩:=cells5 hb2 HK.out
    clear hb2
    cases EM with
    | false=>
     have HX:=ZH (show E=3 by rw[HE.out,if_neg HN0.out,if_neg HN2.out,if_neg HN3.out,if_pos HO.out,if_pos (Or.inr ((HEN.out.1 rfl).elim Or.inl (fun h=>Or.inr (Or.inl h))))])
     have HF:=HF2
     go_wp2_with fail
     go_ret
     exact ⟨by rw[HX.out]; rfl,HF.out⟩
    | true=>
     cases q:fx.toList.isEmpty with
     | false=>
      have HX:=ZH (show E=3 by rw[HE.out,if_neg HN0.out,if_neg HN2.out,if_neg HN3.out,if_pos HO.out,if_pos (Or.inr (Or.inr (Or.inr (fun h=>by rw[h] at q; cases q))))])
      have HF:=HF2
      go_wp2_with fail
      go_ret
      exact ⟨by rw[HX.out]; rfl,HF.out⟩
     | true=>
      have hq:fx.toList = []:=List.isEmpty_iff.1 q
      have HX:=ZH (show E=0 by rw[HE.out,if_neg HN0.out,if_neg HN2.out,if_neg HN3.out,if_pos HO.out,if_neg (by rw[(HEN.out.2 rfl).1,(HEN.out.2 rfl).2,hq]; simp; exact HA0.out)])
      have HF:=HF2
      go_wp2_with fail
      go_ret
      exact ⟨by rw[HX.out]; rfl,HF.out⟩
   ·have e1:((an:Int)==1)=false:=by simp; omega
    have f1:((an:Int) != 1)=true:=by simp; omega
    have c1:(an==1)=false:=by simp; omega
    have d1:(an != 1)=true:=by simp; omega
    have HX:=ZH (show E=3 by rw[HE.out,if_neg HN0.out,if_neg HN2.out,if_neg HN3.out,if_pos HO.out,if_pos (Or.inl han1)])
    have HF:=HAL
    go_wp2_with fail
    go_ret
    exact ⟨by rw[HX.out]; rfl,HF.out⟩
 ·have b0:(ox==0)=false:=by simp; have h1:=HN0.out; have h2:=HN2.out; have h3:=HN3.out; omega
  have b1:(ox==1)=false:=by simp; have h1:=HN0.out; have h2:=HN2.out; have h3:=HN3.out; omega
  have b2:(ox==2)=false:=by simp; have h1:=HN0.out; have h2:=HN2.out; have h3:=HN3.out; omega
  have b3:(ox==3)=false:=by simp; have h1:=HN0.out; have h2:=HN2.out; have h3:=HN3.out; omega
  have b4:(ox==4)=false:=by simp; have h1:=HN0.out; have h2:=HN2.out; have h3:=HN3.out; omega
  have b5:(ox==5)=false:=by simp; have h1:=HN0.out; have h2:=HN2.out; have h3:=HN3.out; omega
  have HO:=ZH ok
  clear ok
  have HX:=ZH (show E=12 by rw[HE.out,if_neg HN0.out,if_neg HN2.out,if_neg HN3.out,if_neg HO.out])
  have HF:=HAL
  go_wp2_with fail
  go_ret
  exact ⟨by rw[HX.out]; rfl,HF.out⟩
open List renaming setIfInBounds_toArray → zLa, set_cons_zero → zLb, set_cons_succ → zLc
open FlowR renaming putSel → zFp
open Act renaming put → zAp
open Nat renaming zero_add → zNz
open Flow.Steps renaming cons → zSc, nil → zSn
open FlowR.Step renaming of → zSo
theorem Glob.old {w w':World} (h:Glob w) (hk:Keep (fun b=>b<w.heap.size) w w'):Glob w':=by
 have ht:=h.tab
 refine ⟨?_,?_⟩
 ·unfold Lib.TabIs World.var? at *
  cases hg:Tryz.prog.globalNamed "internal/strconv.uint64pow10" with
  | none=>rw[hg] at ht; cases ht
  | some g=>
   rw[hg] at ht
   simp only[Option.bind_some] at ht⊢
   have hi:g<w.heap.size:=by
    rcases Nat.lt_or_ge g w.heap.size with h | h
    ·exact h
    ·rw[Array.getElem?_eq_none h] at ht; cases ht
   rw[hk.2 g hi hi]
   exact ht
 ·obtain ⟨m,hm⟩:=h.maxl
  refine ⟨m,cell_keep (hk.2 _ ?_ ?_) hm⟩ <;>
  ·unfold World.cell? at hm
   rcases Nat.lt_or_ge 0 w.heap.size with h1 | h1
   ·exact h1
   ·rw[Array.getElem?_eq_none h1] at hm
    cases hm
theorem nodesL_pre' (lev:Nat):∀(l:List Ex) (k:Nat),nodesL lev (l.take k) <+: nodesL lev l
 | [],k=>by simp[nodesL]
 | x::l,0=>by simp[nodesL]
 | x::l,k+1=>by
  rw[List.take_succ_cons,nodesL,nodesL]
  exact (List.prefix_append_right_inj _).2 (nodesL_pre' lev l k)
theorem few_lens {k:Nat} {x:Ex} (h:FewE (k+1) x):x.c.length≤4294967280∧x.f.length≤4294967280∧∀p,p∈x.t→p.2.length≤4294967280:=by
 have h1:=(fewE_eq k x).1 h
 refine ⟨by have:=h1.1.2.2; omega,by have:=h1.2.1; omega,fun p hp=>?_⟩
 obtain ⟨j,hj,rfl⟩:=List.getElem_of_mem hp
 have h2:=h1.1.1 j hj
 rw[List.getD_eq_getElem?_getD,List.getElem?_eq_getElem hj] at h2
 simp only[Option.getD_some] at h2
 omega
theorem gb_of {b:Nat} {w w':World} (h:Below w.heap.size w w'):w.grownBy w' (some b):=⟨h.os,h.tape,h.output,h.size,fun k hk _=>h.block k hk⟩
theorem gb_trans {b:Nat} {w w' w2:World} (h:w.grownBy w' (some b)) (k:w'.grownBy w2 (some b)):w.grownBy w2 (some b):=⟨k.os.trans h.os,k.tape.trans h.tape,k.output.trans h.output,Nat.le_trans h.size k.size,fun q hq hn=>(k.block q (Nat.lt_of_lt_of_le hq h.size) hn).trans (h.block q hq hn)⟩
theorem gb_keep {b:Nat} {w w':World} (h:w.grownBy w' (some b)):Keep (fun g=>g≠b) w w':=⟨h.size,fun k hk hl=>h.block k hl (by simpa using hk)⟩
theorem gb_set (w:World) (b i:Nat) (u:Value):w.grownBy (w.setCell ⟨b,i,none⟩ u) (some b):=⟨rfl,rfl,rfl,by simp[World.setCell],fun k _ hn=>Below.heap_setCell _ _ _ _ (fun e=>hn (by rw[e]))⟩
theorem gb_below {b:Nat} {w w' w2:World} (h:Below w.heap.size w w') (k:w'.grownBy w2 (some b)) (hb:w.heap.size≤b):Below w.heap.size w w2:=⟨k.os.trans h.os,k.tape.trans h.tape,k.output.trans h.output,Nat.le_trans h.size k.size,fun q hq=>(k.block q (Nat.lt_of_lt_of_le hq h.size) (by simp; omega)).trans (h.block q hq)⟩
theorem vi_set {w:World} {b:Nat} {x y:Value} {t:TypeId} (h:w.heap[b]?=some (.cells #[x,y] t (0,0))) (u:Value):(w.setCell ⟨b,0,none⟩ u).heap[b]?=some (.cells #[u,y] t (0,0)):=by
 have hlt:=ZL h
 have h':w.heap[b]=.cells #[x,y] t (0,0):=by simpa[Array.getElem?_eq_getElem hlt] using h
 show (w.heap.modify b _)[b]?=_
 rw[Array.getElem?_eq_getElem (by simpa using hlt),Array.getElem_modify_self,h']
 rfl
def ViPost (w:World) (bc:Nat) (n:Int) (v:Nat) (l:List (Nat×Ex)) (e:Ending) (w':World):Prop:=∃v':Nat,e=.returned (.int .i64 (scanErr n v l))∧(scanErr n v l=0→v'=v+l.length)∧v'≤64∧w'.heap[bc]?=some (.cells #[.int .i64 (v':Int),.int .i64 n] 106 (0,0))∧w.grownBy w' (some bc)
theorem pvisit_step {w0:World} (hg0:Glob w0) {bc:Nat} (hbc:w0.heap.size≤bc) {n:Int} {k:Nat} (ih:∀(x:Ex) (lev v:Nat),FewE k x→lev+k≤1000000→v≤64→∀(w:World) (vx:Value),Keep (fun b=>b<w0.heap.size) w0 w→w.heap[bc]?=some (.cells #[.int .i64 (v:Int),.int .i64 n] 106 (0,0))→ExP w (fun b=>b≠bc) x vx→Calls Tryz.prog 64 #[.pointer (some ⟨bc,0,none⟩),vx,.int .i64 (lev:Int)] w (ViPost w bc n v (nodesE lev x)))
  {x:Ex} {lev v:Nat} (hx:FewE (k+1) x) (hlev:lev+(k+1)≤1000000) (hv:v≤64) {w:World} {vx:Value} (hold:Keep (fun b=>b<w0.heap.size) w0 w) (hkc:w.heap[bc]?=some (.cells #[.int .i64 (v:Int),.int .i64 n] 106 (0,0))) (hex:ExP w (fun b=>b≠bc) x vx) :
  Calls Tryz.prog 64 #[.pointer (some ⟨bc,0,none⟩),vx,.int .i64 (lev:Int)] w (ViPost w bc n v (nodesE lev x)):=by
 obtain ⟨tx,ax,cx,rfl,htx,hax⟩:=hex.out
 obtain ⟨tax,tcx,rfl,p1,p2,-⟩:=id htx
 obtain ⟨_,_,ee,r1,r2,r3⟩:=id hax
 simp only[Value.slice.injEq] at ee
 obtain ⟨rfl,-,rfl⟩:=ee
 obtain ⟨sx,hsx⟩:∃s:ByteArray,s=⟨x.c.toArray⟩:=⟨_,rfl⟩
 obtain ⟨fx,hfx⟩:∃s:ByteArray,s=⟨x.f.toArray⟩:=⟨_,rfl⟩
 obtain ⟨tn,htn⟩:∃q,q=x.t.length:=⟨_,rfl⟩
 obtain ⟨an,han⟩:∃q,q=x.a.length:=⟨_,rfl⟩
 obtain ⟨ox,hox⟩:∃q,q=x.op:=⟨_,rfl⟩
 obtain ⟨NE,hNE⟩:∃q,q=nodeErr x n:=⟨_,rfl⟩
 obtain ⟨ES,hES⟩:∃q,q=scanErr n v (nodesE lev x):=⟨_,rfl⟩
 have hfl:=few_lens hx
 have hfa:=((fewE_eq k x).1 hx).2.2
 unfold maxLen at p2 r2
 rw[←htn] at p1
 rw[←han] at r1 r3
 have hpn:=fun (W:World) (hW:Keep (fun b=>b≠bc) w W)=>pcheckNode_any (hg0.old (hold.trans (hW.weak fun b hb=>by omega))) (hex.keep hW).reads hfl.1 hfl.2.1 hfl.2.2 n
 rw[←hsx,←hfx,←htn,←han,←hox]
 simp only[←hsx,←hfx,←htn,←han,←hox,←hNE] at hpn
 rw[←hsx,←hfx,←htn,←han,←hox] at hex
 obtain ⟨wa,bx,hwa,hbx,hal,k0⟩:=new_box w #[.int .i64 ox,.string sx,.slice tax tn tcx,.string fx,.slice ax an cx] 30
 have hbx0:bx≠bc:=by have:=ZL hkc; omega
 have hkca:=(hal.block bc (ZL hkc)).trans hkc
 have HPN:=ZH (fun (W:World) (hW:Keep (fun b=>b≠bc) wa W)=>hpn W ((Keep.of_below hal).trans hW))
 have HSC:=ZH (show ES=if 64≤v then 6 else if 8<lev then 15 else if NE≠0 then NE else scanErr n (v+1) (nodesL (lev+1) x.a) by rw[hES,nodesE_eq,scanErr,←hNE])
 have HEQ:=ZH (show nodesE lev x=(lev,x)::nodesL (lev+1) x.a from nodesE_eq lev x)
 have HES:=ZH hES
 have HIH:=ZH ih
 have HFA:=ZH hfa
 have HAX:=ZH (ZN han (ZN r3 hax))
 have HOLD:=ZH hold
 have HAL:=ZH hal
 have HK:=ZH (ZN k0 (ZN hbx0 hbc))
 have HV:=ZH (ZN hv hlev)
 have HKL:=ZH hlev
 have HKC:=ZH hkca
 have HW:=ZH (ZN hwa hbx)
 have y0:=ZI hkca 0
 have f0:=ZF hkca 0
 simp at y0
 have hmk:∀(W:World) (E:Int) (v':Nat),ES=E→(ES=0→v'=v+(nodesE lev x).length)→v'≤64→W.heap[bc]?=some (.cells #[.int .i64 (v':Int),.int .i64 n] 106 (0,0))→w.grownBy W (some bc)→ViPost w bc n v (nodesE lev x) (.returned (.int .i64 E)) W:=fun W E v' h1 h2 h3 h4 h5=>⟨v',by rw[←h1,hES],fun h=>h2 (by rw[hES]; exact h),h3,h4,h5⟩
 have HMK:=ZH hmk
 clear hmk
 clear hpn hES hNE ih hfa hfl hold hal hkc hkca hwa hbx hbx0 hbc hv hlev hsx hfx htn han hox hex htx hax hx hg0 r3 k0
 go_enter Tryz.func64,Tryz.ntmps64
 go_upto_region 1 with fail
 rw[←HW.out.1,←HW.out.2]
 clear HW
 have hfin:=fun (E:Int) (hE:ES=E) (hE0:E≠0)=>HMK.out wa E v hE (fun h=>absurd (hE.symm.trans h) hE0) HV.out.1 HKC.out (gb_of HAL.out)
 have HFIN:=ZH hfin
 clear hfin
 by_cases h64:64≤v
 ·have e1:((64:Int)≤(v:Int))=True:=eq_true (by omega)
  have HX:=ZH (HFIN.out 6 (by rw[HSC.out,if_pos h64]) (by omega))
  clear h64
  go_wp2_with fail
  go_ret
  exact HX.out
 have e1:((64:Int)≤(v:Int))=False:=eq_false (by omega)
 by_cases h8:8<lev
 ·have e2:((8:Int)<(lev:Int))=True:=eq_true (by omega)
  have HX:=ZH (HFIN.out 15 (by rw[HSC.out,if_neg h64,if_pos h8]) (by omega))
  clear h64 h8
  go_wp2_with fail
  go_ret
  exact HX.out
 have e2:((8:Int)<(lev:Int))=False:=eq_false (by omega)
 have HSC2:=ZH (show ES=if NE≠0 then NE else scanErr n (v+1) (nodesL (lev+1) x.a) by rw[HSC.out,if_neg h64,if_neg h8])
 have HV2:=ZH (show v+1≤64∧lev≤8 by omega)
 have hw1:IntKind.i64.wrap ((v:Int)+1)=(v:Int)+1:=IntWalk.i64_in _ (by have:=HV2.out; omega)
 have hw2:wrap64 ((v:Int)+1)=(v:Int)+1:=IntWalk.wrap64_in _ (by have:=HV2.out; omega)
 clear HSC HFIN h64 h8 HV
 go_upto_region 6 with fail
 obtain ⟨w1,hw1e⟩:∃x,x=wa.setCell ⟨bc,0,none⟩ (.int .i64 ((v:Int)+1)):=⟨_,rfl⟩
 rw[←hw1e]
 have hkc1:w1.heap[bc]?=some (.cells #[.int .i64 ((v+1:Nat):Int),.int .i64 n] 106 (0,0)):=by
  rw[hw1e,show ((v+1:Nat):Int)=(v:Int)+1 by omega]
  exact vi_set HKC.out _
 have hgb1:wa.grownBy w1 (some bc):=by rw[hw1e]; exact gb_set _ _ _ _
 have hkb1:=gb_keep hgb1
 have HGB1:=ZH hgb1
 have HKC1:=ZH hkc1
 have HKB1:=ZH hkb1
 have HKX1:=ZH (hkb1.same HK.out.2.1 HK.out.1)
 have HWR:=ZH (ZR w1.heap.size w1)
 clear hw1e hkc1 hkb1 hgb1 y0 f0 e1 e2 hw1 hw2
 refine FlowR.wp_region_sel (fun a b=>Below a.heap.size a b) (fun a=>ZR _ a) (fun _ _ _ h k=>h.trans (k.mono h.size)) [0,1,2,3,4,5,6] [false,false,false,false,false,false,false] [true,true,true,true,true,true,true] (fun i9 v w'=>match i9 with
  | 0=>v=.agg #[.int .i64 ox,.string sx,.slice tax tn tcx,.string fx,.slice ax an cx]
  | 1=>v=.pointer (some ⟨bc,0,none⟩)
  | 2=>v=.pointer (some ⟨bc,0,none⟩)
  | 3=>v=.pointer (some ⟨bc,1,none⟩)
  | 4=>v=.int .i64 n
  | 5=>v=.int .i64 NE
  | _=>v=.int .i64 NE) rfl rfl (by kernel_rfl) (by kernel_rfl) (by kernel_rfl) (by kernel_rfl) ?st ?_ ?_
 case st=>
  intro i9 v u1 u2 h hb
  match i9 with
  | 0 | 1 | 2 | 3 | 4 | 5 | 6 | _+7=>exact h
 refine zSc (zSo rfl ?s0) (zSc (zSo rfl ?s1) (zSc (zSo rfl ?s2) (zSc (zSo rfl ?s3) (zSc (zSo rfl ?s4) (zSc (zSo rfl ?s5) (zSc (zSo rfl ?s6) zSn))))))
 case s0=>
  intro xs w' hb hT K9 hK9
  clear hT
  simp only[zFp,zAp,zLa,zLb,zLc,Nat.reduceAdd,zNz] at hK9⊢
  have hw:=Flow.hwD HWR.out hb
  obtain ⟨y0,y1,y2,y3,y4⟩:=cells5 hw HKX1.out
  go_simp
  exact hK9 _ _ (ZR _ _) rfl
 case s1=>
  intro xs w' hb hT K9 hK9
  clear hT
  simp only[zFp,zAp,zLa,zLb,zLc,Nat.reduceAdd,zNz] at hK9⊢
  have hw:=Flow.hwD HWR.out hb
  go_simp
  exact hK9 _ _ (ZR _ _) rfl
 case s2=>
  intro xs w' hb hT K9 hK9
  have h1:(xs 1)=.pointer (some ⟨bc,0,none⟩):=hT 1 (by kernel_rfl)
  clear hT
  simp only[zFp,zAp,zLa,zLb,zLc,Nat.reduceAdd,zNz] at hK9⊢
  have hw:=Flow.hwD HWR.out hb
  (try simp only[h1] at hK9)
  go_simp
  exact hK9 _ _ (ZR _ _) rfl
 case s3=>
  intro xs w' hb hT K9 hK9
  have h2:(xs 2)=.pointer (some ⟨bc,0,none⟩):=hT 2 (by kernel_rfl)
  clear hT
  simp only[zFp,zAp,zLa,zLb,zLc,Nat.reduceAdd,zNz] at hK9⊢
  have hw:=Flow.hwD HWR.out hb
  (try simp only[h2] at hK9)
  go_simp
  exact hK9 _ _ (ZR _ _) rfl
 case s4=>
  intro xs w' hb hT K9 hK9
  have h3:(xs 3)=.pointer (some ⟨bc,1,none⟩):=hT 3 (by kernel_rfl)
  clear hT
  simp only[zFp,zAp,zLa,zLb,zLc,Nat.reduceAdd,zNz] at hK9⊢
  have hw:=Flow.hwD HWR.out hb
  (try simp only[h3] at hK9)
  obtain ⟨y0,y1⟩:=cells2 hw HKC1.out
  go_simp
  exact hK9 _ _ (ZR _ _) rfl
 case s5=>
  intro xs w' hb hT K9 hK9
  have h0:(xs 0)=.agg #[.int .i64 ox,.string sx,.slice tax tn tcx,.string fx,.slice ax an cx]:=hT 0 (by kernel_rfl)
  have h4:(xs 4)=.int .i64 n:=hT 4 (by kernel_rfl)
  clear hT
  simp only[zFp,zAp,zLa,zLb,zLc,Nat.reduceAdd,zNz] at hK9⊢
  have hw:=Flow.hwD HWR.out hb
  (try simp only[h0] at hK9)
  (try simp only[h4] at hK9)
  go_simp
  go_at_call 104
  refine (HPN.out w' (HKB1.out.trans (Keep.of_below hw))).mono ?_
  rintro e w3 ⟨rfl,hb3⟩
  exact hK9 _ _ hb3 rfl
 case s6=>
  intro xs w' hb hT K9 hK9
  have h5:(xs 5)=.int .i64 NE:=hT 5 (by kernel_rfl)
  clear hT
  simp only[zFp,zAp,zLa,zLb,zLc,Nat.reduceAdd,zNz] at hK9⊢
  have hw:=Flow.hwD HWR.out hb
  (try simp only[h5] at hK9)
  go_simp
  exact hK9 _ _ (ZR _ _) rfl
 intro xs w' hb hT
 have hw:=Flow.hwD HWR.out hb
 have h5:(xs 5)=.int .i64 NE:=hT 5 (by rfl)
 have h6:(xs 6)=.int .i64 NE:=hT 6 (by rfl)
 clear hT
 simp only[zFp,zAp,zLa,zLb,zLc,Nat.reduceAdd,zNz,FlowR.restL,FlowR.orM,Bool.false_or]
 simp only[h5,h6]
 clear h5 h6 hb
 have HB2:=ZH (gb_trans HGB1.out (gb_of hw))
 have HKC2:=ZH ((hw.block bc (ZL HKC1.out)).trans HKC1.out)
 have HS2:=ZH (show wa.heap.size≤w'.heap.size from HB2.out.size)
 obtain ⟨w2,hw2⟩:∃x,x=w':=⟨_,rfl⟩
 rw[←hw2] at HB2 HKC2 HS2⊢
 clear hw hw2 HKC1 HKB1 HKX1 HWR HGB1
 by_cases hne:NE=0
 case neg=>
  have e3:(NE==0)=false:=by simpa using hne
  have e4:(NE != 0)=true:=by simpa using hne
  have HX:=ZH (HMK.out w2 NE (v+1) (by rw[HSC2.out,if_pos hne]) (fun h=>absurd (by rw[HSC2.out,if_pos hne] at h; exact h) hne) HV2.out.1 HKC2.out (gb_trans (gb_of HAL.out) HB2.out))
  clear hne
  go_wp2_with fail
  go_ret
  exact HX.out
 have e3:(NE==0)=true:=by rw[hne]; rfl
 have e4:(NE != 0)=false:=by rw[hne]; rfl
 have HSC3:=ZH (show ES=scanErr n (v+1) (nodesL (lev+1) x.a) by rw[HSC2.out,if_neg (by simpa using hne)])
 clear hne HSC2
 go_wp2_with fail
 clear e3 e4
 go_loopg [8] an (fun gk va wr=>∃(i vv:Nat),i+gk=an∧va=.int .i64 i∧vv≤64∧Hid (scanErr n (v+1) (nodesL (lev+1) (x.a.take i))=0∧vv=v+1+(nodesL (lev+1) (x.a.take i)).length)∧Hid (wr.heap[bc]?=some (.cells #[.int .i64 (vv:Int),.int .i64 n] 106 (0,0)))∧Hid (wa.grownBy wr (some bc)))
 case atStart=>exact ⟨0,v+1,by omega,rfl,HV2.out.1,ZH ⟨by rw[List.take_zero,nodesL,scanErr],by rw[List.take_zero,nodesL]; rfl⟩,HKC2,HB2⟩
 case round=>
  obtain ⟨i,vv,hin,rfl,hvv,hsc,hkc,hkw⟩:=hrel
  have hkk:=gb_keep hkw.out
  have hkx:=hkk.same HK.out.2.1 HK.out.1
  obtain ⟨x0,x1,x2,x3,x4⟩:=cells5 (ZR _ wr) hkx
  by_cases hlt:i<an
  ·have e1:((i:Int)<(an:Int))=True:=eq_true (by omega)
   obtain ⟨g,og,rfl,hgc,hgl,hcc⟩:=HAX.out.2.1 (by omega)
   have hil:i<x.a.length:=by have:=HAX.out.1; omega
   obtain ⟨a0,a1,a2,a3,a4,d0,d1,d2,d3,d4,hak⟩:=hcc.at (j:=i) hil
   have hkww:=(Keep.of_below (P:=fun b=>b≠bc) HAL.out).trans hkk
   have hgk:=hkww.2 g hgc hgl
   replace d0:=cell_keep hgk d0
   replace d1:=cell_keep hgk d1
   replace d2:=cell_keep hgk d2
   replace d3:=cell_keep hgk d3
   replace d4:=cell_keep hgk d4
   replace hak:=hak.keep hkww
   have hfi:=fewL_at HFA.out hil
   have htk:=nodesL_take (lev+1) hil
   have hpre:=scan_pre (n:=n) (v:=v+1) (m:=[]) (l:=nodesL (lev+1) (x.a.take (i+1)))
   obtain ⟨utv,ua,uc,e,htk2,-⟩:=hak.out
   simp only[Value.agg.injEq] at e
   have e:=congrArg Array.toList e
   simp only[List.cons.injEq,and_true] at e
   obtain ⟨rfl,rfl,rfl,rfl,rfl⟩:=e
   obtain ⟨uta,utc,rfl,-⟩:=htk2
   obtain ⟨y,hy⟩:∃y,y=x.a.getD i Ex.none:=⟨_,rfl⟩
   rw[←hy] at d0 d1 d2 d3 d4 hak hfi htk
   have HY:=ZH (ZN hil htk)
   obtain ⟨uo,huo⟩:∃q,q=y.op:=⟨_,rfl⟩
   obtain ⟨us0,hus0⟩:∃s:ByteArray,s=⟨y.c.toArray⟩:=⟨_,rfl⟩
   obtain ⟨us1,hus1⟩:∃s:ByteArray,s=⟨y.f.toArray⟩:=⟨_,rfl⟩
   obtain ⟨utn,hutn⟩:∃q,q=y.t.length:=⟨_,rfl⟩
   obtain ⟨uan,huan⟩:∃q,q=y.a.length:=⟨_,rfl⟩
   rw[←huo,←hus0,←hutn,←hus1,←huan] at hak
   rw[←huo] at d0
   rw[←hus0] at d1
   rw[←hutn] at d2
   rw[←hus1] at d3
   rw[←huan] at d4
   have hcall:=HIH.out y (lev+1) vv hfi (by have:=HV2.out; have:=HKL.out; omega) hvv wr _ (HOLD.out.trans (hkww.weak fun b hb=>by have:=HK.out.2.2; omega)) hkc.out hak
   obtain ⟨SE,hSE⟩:∃q,q=scanErr n vv (nodesE (lev+1) y):=⟨_,rfl⟩
   unfold ViPost at hcall
   rw[←hSE] at hcall
   rw[show ((lev+1:Nat):Int)=(lev:Int)+1 by omega] at hcall
   have HCL:=ZH hcall
   have HSE:=ZH hSE
   have HSI:=ZH hsc.out
   have HKW:=ZH hkw.out
   have HLT:=ZH (ZN hlt hin)
   have hi0:(0:Int)≤(i:Int):=by omega
   have hi1:(i:Int)<(an:Int):=by omega
   have hwl:IntKind.i64.wrap ((lev:Int)+1)=(lev:Int)+1:=IntWalk.i64_in _ (by have:=HV2.out; omega)
   have hwl2:wrap64 ((lev:Int)+1)=(lev:Int)+1:=IntWalk.wrap64_in _ (by have:=HV2.out; omega)
   clear hkx hkk hcc hgk hkww hgl hgc hil hfi htk hpre hy huo hus0 hus1 hutn huan hak hcall hSE hsc hkw hkc hlt hin
   go_wp2_with fail
   refine HCL.out.mono ?_
   rintro e w3 ⟨v3,rfl,hv3,hv64,hkc3,hkw3⟩
   have HK3:=ZH (ZN hkc3 (gb_trans HKW.out hkw3))
   have HV3:=ZH hv3
   clear hkc3 hkw3 hv3 x0 x1 x2 x3 x4 d0 d1 d2 d3 d4 HCL hwl hwl2
   have HAP:=ZH (show scanErr n (v+1) (nodesL (lev+1) (x.a.take (i+1)))=SE by
    rw[HY.out.2,scan_append,if_neg (by rw[HSI.out.1]; simp),←HSI.out.2,HSE.out])
   by_cases hse:SE=0
   ·have e3:(SE==0)=true:=by rw[hse]; rfl
    have e4:(SE != 0)=false:=by rw[hse]; rfl
    have HNX:=ZH (show scanErr n (v+1) (nodesL (lev+1) (x.a.take (i+1)))=0∧v3=v+1+(nodesL (lev+1) (x.a.take (i+1))).length from ⟨by rw[HAP.out,hse],by rw[HV3.out hse,HSI.out.2,HY.out.2,List.length_append]; omega⟩)
    clear hse
    go_wp2_with fail
    go_roundg (an-(i+1))
    case measure=>have:=HLT.out; omega
    case rel=>exact ⟨i+1,v3,by have:=HLT.out; omega,by first | (congr 1; done) | (congr 1; exact IntWalk.wrap64_in ((i:Int)+1) (by have:=HLT.out; omega)),hv64,HNX,ZH HK3.out.1,ZH HK3.out.2⟩
   ·have e3:(SE==0)=false:=by simpa using hse
    have e4:(SE != 0)=true:=by simpa using hse
    have HX:=ZH (show ViPost w bc n v (nodesE lev x) (.returned (.int .i64 SE)) w3 from by
     have hES:ES=SE:=by
      obtain ⟨t,ht⟩:=nodesL_pre' (lev+1) x.a (i+1)
      rw[HSC3.out,←ht,scan_pre (by rw[HAP.out]; exact hse),HAP.out]
     have hk:=gb_trans (gb_of (b:=bc) HAL.out) HK3.out.2
     exact HMK.out w3 SE v3 hES (fun h=>absurd (hES.symm.trans h) hse) hv64 HK3.out.1 hk)
    clear hse
    go_wp2_with fail
    go_ret
    exact HX.out
  ·have e1:((i:Int)<(an:Int))=False:=eq_false (by omega)
   obtain rfl:i=an:=by omega
   have HX:=ZH (show ViPost w bc n v (nodesE lev x) (.returned (.int .i64 0)) wr from by
    have htk:x.a.take i=x.a:=List.take_of_length_le (by have:=HAX.out.1; omega)
    have h1:=hsc.out
    rw[htk] at h1
    have hk:=gb_trans (gb_of (b:=bc) HAL.out) hkw.out
    exact HMK.out wr 0 vv (by rw[HSC3.out,h1.1]) (fun _=>by rw[h1.2,HEQ.out,List.length_cons]; omega) hvv hkc.out hk)
   clear hsc hkc hkw hlt hin hkx hkk
   go_wp2_with fail
   go_ret
   exact HX.out
theorem pvisit_any {w0:World} (hg0:Glob w0) {bc:Nat} (hbc:w0.heap.size≤bc) {n:Int}:∀(k:Nat) (x:Ex) (lev v:Nat),FewE k x→lev+k≤1000000→v≤64→∀(w:World) (vx:Value),Keep (fun b=>b<w0.heap.size) w0 w→w.heap[bc]?=some (.cells #[.int .i64 (v:Int),.int .i64 n] 106 (0,0))→ExP w (fun b=>b≠bc) x vx→Calls Tryz.prog 64 #[.pointer (some ⟨bc,0,none⟩),vx,.int .i64 (lev:Int)] w (ViPost w bc n v (nodesE lev x))
 | 0,x,_,_,h,_,_,_,_,_,_,_=>by rw[FewE] at h; exact h.elim
 | k+1,x,lev,v,h,hl,hv,w,vx,h1,h2,h3=>pvisit_step hg0 hbc (fun y lv v2 hy hlv hv2 w vx h1 h2 h3=>pvisit_any hg0 hbc k y lv v2 hy hlv hv2 w vx h1 h2 h3) h hl hv h1 h2 h3
theorem pcheckExpr_any {w:World} (hg:Glob w) {k:Nat} {x:Ex} (hx:FewE k x) (hk:k≤900000) {vx:Value} (hex:ExIn w x vx) (n:Int):Calls Tryz.prog 26 #[vx,.int .i64 n] w fun e w'=>e=.returned (.int .i64 (exprErr x n))∧Below w.heap.size w w':=by
 obtain ⟨tx,ax,cx,rfl,htx,-⟩:=hex.out
 obtain ⟨tax,tcx,rfl,-,-,-⟩:=id htx
 have hat:=hex.at
 obtain ⟨sx,hsx⟩:∃s:ByteArray,s=⟨x.c.toArray⟩:=⟨_,rfl⟩
 obtain ⟨fx,hfx⟩:∃s:ByteArray,s=⟨x.f.toArray⟩:=⟨_,rfl⟩
 obtain ⟨tn,htn⟩:∃q,q=x.t.length:=⟨_,rfl⟩
 obtain ⟨an,han⟩:∃q,q=x.a.length:=⟨_,rfl⟩
 obtain ⟨ox,hox⟩:∃q,q=x.op:=⟨_,rfl⟩
 obtain ⟨E,hE⟩:∃q,q=exprErr x n:=⟨_,rfl⟩
 rw[←hE]
 rw[←hsx,←hfx,←htn,←han,←hox] at hat⊢
 obtain ⟨wa,bx,hwa,hbx,hal,k0⟩:=new_box w #[.int .i64 ox,.string sx,.slice tax tn tcx,.string fx,.slice ax an cx] 30
 have HE:=ZH hE
 have HG:=ZH hg
 have HX:=ZH (ZN hx hk)
 have HAT:=ZH hat
 have HAL:=ZH hal
 have HK:=ZH k0
 have HW:=ZH (ZN hwa hbx)
 clear hwa hbx hal k0 hg hx hk hat hsx hfx htn han hox hE htx hex
 go_enter Tryz.func26,Tryz.ntmps26
 go_upto_region 1 with fail
 rw[←HW.out.1,←HW.out.2]
 clear HW
 by_cases h0:n<0
 ·have e1:(n<0)=True:=eq_true h0
  have HF:=ZH (show E=2 by rw[HE.out]; unfold exprErr; rw[if_pos (Or.inl h0)])
  clear h0
  go_wp2_with fail
  go_ret
  exact ⟨by rw[HF.out]; rfl,HAL.out⟩
 have e1:(n<0)=False:=eq_false h0
 by_cases h1:64<n
 ·have e2:(64<n)=True:=eq_true h1
  have HF:=ZH (show E=2 by rw[HE.out]; unfold exprErr; rw[if_pos (Or.inr h1)])
  clear h0 h1
  go_wp2_with fail
  go_ret
  exact ⟨by rw[HF.out]; rfl,HAL.out⟩
 have e2:(64<n)=False:=eq_false h1
 have HF:=ZH (show E=scanErr n 0 (nodesE 1 x) by rw[HE.out]; unfold exprErr; rw[if_neg (by omega)])
 clear h0 h1
 go_upto_region 4 with fail
 obtain ⟨wb,bc,hwb,hbc,hlb,kb⟩:=new_box wa #[.int .i64 0,.int .i64 n] 106
 rw[←hwb,←hbc]
 have hbw:=HAL.out.trans (hlb.mono HAL.out.size)
 have hcall:=pvisit_any HG.out (bc:=bc) (by have:=HAL.out.size; omega) (n:=n) k x 1 0 HX.out.1 (by have:=HX.out.2; omega) (by omega) wb _ (Keep.of_below hbw) kb ((HAT.out.keep (Keep.of_below hbw)).mono fun b hb _=>by have:=HAL.out.size; omega)
 obtain ⟨x0,x1,x2,x3,x4⟩:=cells5 hlb HK.out
 have HC:=ZH hcall
 have HB:=ZH (ZN hbw (show w.heap.size≤bc by have:=HAL.out.size; omega))
 clear hwb hbc hlb kb hbw hcall e1 e2
 go_wp2_with fail
 refine HC.out.mono ?_
 rintro e w3 ⟨v3,rfl,-,-,-,hk3⟩
 have HR:=ZH (gb_below HB.out.1 hk3 HB.out.2)
 clear hk3 x0 x1 x2 x3 x4
 go_wp2_with fail
 go_ret
 exact ⟨by rw[HF.out]; rfl,HR.out⟩
theorem one_set0 {w:World} {b:Nat} {x:Value} {t:TypeId} (h:w.heap[b]?=some (.cells #[x] t (0,0))) (u:Value):(w.setCell ⟨b,0,none⟩ u).heap[b]?=some (.cells #[u] t (0,0)):=by
 have hlt:=ZL h
 have h':w.heap[b]=.cells #[x] t (0,0):=by simpa[Array.getElem?_eq_getElem hlt] using h
 show (w.heap.modify b _)[b]?=_
 rw[Array.getElem?_eq_getElem (by simpa using hlt),Array.getElem_modify_self,h']
 rfl
def FwPost (w:World) (bc:Nat) (k L:Nat) (x:Ex) (e:Ending) (w':World):Prop:=∃(b:Bool) (L':Nat),e=.returned (.bool b)∧(b=true→FewE k x)∧L'≤L∧w'.heap[bc]?=some (.cells #[.int .i64 (L':Int)] 3 (0,0))∧w.grownBy w' (some bc)
theorem pfew_step {bc k:Nat} (ih:∀(x:Ex) (lev L:Nat),lev+k=13→L≤80→∀(w:World) (vx:Value),w.heap[bc]?=some (.cells #[.int .i64 (L:Int)] 3 (0,0))→ExP w (fun b=>b≠bc) x vx→Calls Tryz.prog 24 #[vx,.int .i64 (lev:Int),.pointer (some ⟨bc,0,none⟩)] w (FwPost w bc k L x))
  {x:Ex} {lev L:Nat} (hlev:lev+(k+1)=13) (hL:L≤80) {w:World} {vx:Value} (hkc:w.heap[bc]?=some (.cells #[.int .i64 (L:Int)] 3 (0,0))) (hex:ExP w (fun b=>b≠bc) x vx) :
  Calls Tryz.prog 24 #[vx,.int .i64 (lev:Int),.pointer (some ⟨bc,0,none⟩)] w (FwPost w bc (k+1) L x):=by
 obtain ⟨tx,ax,cx,rfl,htx,hax⟩:=hex.out
 obtain ⟨tax,tcx,rfl,p1,p2,-⟩:=id htx
 obtain ⟨_,_,ee,r1,r2,r3⟩:=id hax
 simp only[Value.slice.injEq] at ee
 obtain ⟨rfl,-,rfl⟩:=ee
 obtain ⟨sx,hsx⟩:∃s:ByteArray,s=⟨x.c.toArray⟩:=⟨_,rfl⟩
 obtain ⟨fx,hfx⟩:∃s:ByteArray,s=⟨x.f.toArray⟩:=⟨_,rfl⟩
 obtain ⟨tn,htn⟩:∃q,q=x.t.length:=⟨_,rfl⟩
 obtain ⟨an,han⟩:∃q,q=x.a.length:=⟨_,rfl⟩
 obtain ⟨ox,hox⟩:∃q,q=x.op:=⟨_,rfl⟩
 have hfz:fx.size=x.f.length:=by rw[hfx]; simp[ByteArray.size]
 unfold maxLen at p2 r2
 rw[←htn] at p1
 rw[←han] at r1 r3
 obtain ⟨wa,bx,hwa,hbx,hal,k0⟩:=new_box w #[.int .i64 ox,.string sx,.slice tax tn tcx,.string fx,.slice ax an cx] 30
 have hft:=pfewTerms_any (w:=wa) (v:=.agg #[.string ⟨x.c.toArray⟩,.slice tax x.t.length tcx]) (c:=x.c) (L:=x.t) ⟨_,rfl,htx.reads.below hal⟩
 rw[←hsx,←hfx,←htn,←han,←hox]
 rw[←hsx,←htn] at hft
 have hbx0:bx≠bc:=by have:=ZL hkc; omega
 have hkca:=(hal.block bc (ZL hkc)).trans hkc
 have hmk:∀(W:World) (b:Bool) (L':Nat),(b=true→FewE (k+1) x)→L'≤L→W.heap[bc]?=some (.cells #[.int .i64 (L':Int)] 3 (0,0))→w.grownBy W (some bc)→FwPost w bc (k+1) L x (.returned (.bool b)) W:=fun W b L' h1 h2 h3 h4=>⟨b,L',rfl,h1,h2,h3,h4⟩
 have HMK:=ZH hmk
 have HFT:=ZH hft
 have HIH:=ZH ih
 have HAX:=ZH (ZN han (ZN r3 hfz))
 have HAL:=ZH hal
 have HK:=ZH (ZN k0 hbx0)
 have HV:=ZH (ZN hlev hL)
 have HKC:=ZH hkca
 have HW:=ZH (ZN hwa hbx)
 obtain ⟨x0,x1,x2,x3,x4⟩:=cells5 (ZR _ wa) k0
 have y0:=ZI hkca 0
 simp at y0
 have HNO:=ZH (hmk wa false L (fun h=>by cases h) (Nat.le_refl _) hkca (gb_of hal))
 clear hft ih hal hkc hkca hwa hbx hbx0 hlev hL hsx hfx htn han hox hex htx hax r3 k0 hmk hfz
 go_enter Tryz.func24,Tryz.ntmps24
 go_upto_region 1 with fail
 rw[←HW.out.1,←HW.out.2]
 clear HW
 have e1:((12:Int)<(lev:Int))=False:=eq_false (by have:=HV.out.1; omega)
 by_cases h0:L=0
 ·subst h0
  go_wp2_with fail
  go_ret
  exact HNO.out
 have e2:((L:Int)≤0)=False:=eq_false (by omega)
 have e2':(L=0)=False:=eq_false h0
 by_cases h20:20<fx.size
 ·have e3:((20:Int)<(fx.size:Int))=True:=eq_true (by omega)
  clear h0 h20
  go_wp2_with fail
  go_ret
  exact HNO.out
 have e3:((20:Int)<(fx.size:Int))=False:=eq_false (by omega)
 have H20:=ZH (ZN h0 h20)
 clear h0 h20
 go_wp2_with fail
 refine HFT.out.mono ?_
 rintro e w1 ⟨b,rfl,hb,hb1⟩
 have hkc1:=(hb1.block bc (ZL HKC.out)).trans HKC.out
 have hkx1:=(hb1.block bx (ZL HK.out.1)).trans HK.out.1
 have HG1:=ZH (gb_trans (gb_of (b:=bc) HAL.out) (gb_of hb1))
 have HKC1:=ZH hkc1
 have HKX1:=ZH hkx1
 clear hb1 hkc1 hkx1 x0 x1 x2 x3 x4 y0 HFT HNO
 have HNO:=ZH (HMK.out w1 false L (fun h=>by cases h) (Nat.le_refl _) HKC1.out HG1.out)
 cases b with
 | false=>
  clear hb
  go_wp2_with fail
  go_ret
  exact HNO.out
 | true=>
  have HFT:=ZH (hb.1 rfl)
  obtain ⟨x0,x1,x2,x3,x4⟩:=cells5 (ZR _ w1) HKX1.out
  have y0:=ZI HKC1.out 0
  have f0:=ZF HKC1.out 0
  simp at y0
  clear hb
  by_cases h80:80<an
  ·have e4:((80:Int)<(an:Int))=True:=eq_true (by omega)
   clear h80
   go_wp2_with fail
   go_ret
   exact HNO.out
  have e4:((80:Int)<(an:Int))=False:=eq_false (by omega)
  have hw1:IntKind.i64.wrap ((L:Int)-1)=(L:Int)-1:=IntWalk.i64_in _ (by have:=HV.out.2; omega)
  have hw2:wrap64 ((L:Int)-1)=(L:Int)-1:=IntWalk.wrap64_in _ (by have:=HV.out.2; omega)
  clear h80
  go_upto_region 4 with fail
  obtain ⟨w2,hw2e⟩:∃x,x=w1.setCell ⟨bc,0,none⟩ (.int .i64 ((L:Int)-1)):=⟨_,rfl⟩
  rw[←hw2e]
  have hkc2:w2.heap[bc]?=some (.cells #[.int .i64 ((L-1:Nat):Int)] 3 (0,0)):=by
   rw[hw2e,show ((L-1:Nat):Int)=(L:Int)-1 by have:=H20.out.1; omega]
   exact one_set0 HKC1.out _
  have hg2:w1.grownBy w2 (some bc):=by rw[hw2e]; exact gb_set _ _ _ _
  have HG2:=ZH (gb_trans HG1.out hg2)
  have HKX2:=ZH ((gb_keep hg2).same HK.out.2 HKX1.out)
  have HKC2:=ZH hkc2
  clear hw2e hkc2 hg2 hw1 hw2 x0 x1 x2 x3 x4 y0 f0 e2 e2' e3 e4
  go_wp2_with fail
  go_loopg [7] an (fun gk va wr=>∃(i:Nat),i+gk=an∧va=.int .i64 i∧Hid (∀j,j<i→FewE k (x.a.getD j Ex.none))∧Hid (∃L':Nat,L'≤L∧wr.heap[bc]?=some (.cells #[.int .i64 (L':Int)] 3 (0,0)))∧Hid (w.grownBy wr (some bc)∧wr.heap[bx]?=some (.cells #[.int .i64 ox,.string sx,.slice tax tn tcx,.string fx,.slice ax an cx] 30 (0,0))))
  case atStart=>exact ⟨0,by omega,rfl,ZH (fun j hj=>by omega),ZH ⟨L-1,by omega,HKC2.out⟩,ZH ⟨HG2.out,HKX2.out⟩⟩
  case round=>
   obtain ⟨i,hin,rfl,hall,hkc,hkw⟩:=hrel
   obtain ⟨x0,x1,x2,x3,x4⟩:=cells5 (ZR _ wr) hkw.out.2
   by_cases hlt:i<an
   ·have e5:((i:Int)<(an:Int))=True:=eq_true (by omega)
    obtain ⟨g,og,rfl,hgc,hgl,hcc⟩:=HAX.out.2.1 (by omega)
    have hil:i<x.a.length:=by have:=HAX.out.1; omega
    obtain ⟨a0,a1,a2,a3,a4,d0,d1,d2,d3,d4,hak⟩:=hcc.at (j:=i) hil
    have hkww:=gb_keep hkw.out.1
    have hgk:=hkww.2 g hgc hgl
    replace d0:=cell_keep hgk d0
    replace d1:=cell_keep hgk d1
    replace d2:=cell_keep hgk d2
    replace d3:=cell_keep hgk d3
    replace d4:=cell_keep hgk d4
    replace hak:=hak.keep hkww
    obtain ⟨utv,ua,uc,e,htk2,-⟩:=hak.out
    simp only[Value.agg.injEq] at e
    have e:=congrArg Array.toList e
    simp only[List.cons.injEq,and_true] at e
    obtain ⟨rfl,rfl,rfl,rfl,rfl⟩:=e
    obtain ⟨uta,utc,rfl,-⟩:=htk2
    obtain ⟨y,hy⟩:∃y,y=x.a.getD i Ex.none:=⟨_,rfl⟩
    rw[←hy] at d0 d1 d2 d3 d4 hak
    have HY:=ZH hy
    obtain ⟨uo,huo⟩:∃q,q=y.op:=⟨_,rfl⟩
    obtain ⟨us0,hus0⟩:∃s:ByteArray,s=⟨y.c.toArray⟩:=⟨_,rfl⟩
    obtain ⟨us1,hus1⟩:∃s:ByteArray,s=⟨y.f.toArray⟩:=⟨_,rfl⟩
    obtain ⟨utn,hutn⟩:∃q,q=y.t.length:=⟨_,rfl⟩
    obtain ⟨uan,huan⟩:∃q,q=y.a.length:=⟨_,rfl⟩
    rw[←huo,←hus0,←hutn,←hus1,←huan] at hak
    rw[←huo] at d0
    rw[←hus0] at d1
    rw[←hutn] at d2
    rw[←hus1] at d3
    rw[←huan] at d4
    obtain ⟨L1,hL1,hkc1⟩:=hkc.out
    have hcall:=HIH.out y (lev+1) L1 (by have:=HV.out.1; omega) (by have:=HV.out.2; omega) wr _ hkc1 hak
    rw[show ((lev+1:Nat):Int)=(lev:Int)+1 by omega] at hcall
    unfold FwPost at hcall
    have HCL:=ZH hcall
    have HLL:=ZH hL1
    have HKW:=ZH hkw.out
    have HLT:=ZH (ZN hlt hin)
    have HALL:=ZH hall.out
    have hi0:(0:Int)≤(i:Int):=by omega
    have hi1:(i:Int)<(an:Int):=by omega
    have hwl:IntKind.i64.wrap ((lev:Int)+1)=(lev:Int)+1:=IntWalk.i64_in _ (by have:=HV.out.1; omega)
    have hwl2:wrap64 ((lev:Int)+1)=(lev:Int)+1:=IntWalk.wrap64_in _ (by have:=HV.out.1; omega)
    clear hcc hgk hkww hgl hgc hil hy huo hus0 hus1 hutn huan hak hcall hkw hkc hkc1 hL1 hlt hin hall
    go_wp2_with fail
    refine HCL.out.mono ?_
    rintro e w3 ⟨b,L3,rfl,hb,hL3,hkc3,hg3⟩
    have HL3:=ZH (show L3≤L by have:=HLL.out; omega)
    have HK3:=ZH (ZN hkc3 (ZN (gb_trans HKW.out.1 hg3) ((gb_keep hg3).same HK.out.2 HKW.out.2)))
    have HB3:=ZH hb
    clear hkc3 hg3 hb hL3 x0 x1 x2 x3 x4 d0 d1 d2 d3 d4 HCL hwl hwl2
    cases b with
    | false=>
     have HX:=ZH (HMK.out w3 false L3 (fun h=>by cases h) HL3.out HK3.out.1 HK3.out.2.1)
     go_wp2_with fail
     go_ret
     exact HX.out
    | true=>
     have HNX:=ZH (show ∀j,j<i+1→FewE k (x.a.getD j Ex.none) from fun j hj=>by
      by_cases h:j<i
      ·exact HALL.out j h
      ·obtain rfl:j=i:=by omega
       rw[←HY.out]
       exact HB3.out rfl)
     go_wp2_with fail
     go_roundg (an-(i+1))
     case measure=>have:=HLT.out; omega
     case rel=>exact ⟨i+1,by have:=HLT.out; omega,by first | (congr 1; done) | (congr 1; exact IntWalk.wrap64_in ((i:Int)+1) (by have:=HLT.out; omega)),HNX,ZH ⟨L3,HL3.out,HK3.out.1⟩,ZH HK3.out.2⟩
   ·have e5:((i:Int)<(an:Int))=False:=eq_false (by omega)
    obtain rfl:i=an:=by omega
    obtain ⟨L1,hL1,hkc1⟩:=hkc.out
    have HX:=ZH (HMK.out wr true L1 (fun _=>(fewE_eq k x).2 ⟨HFT.out,by have h1:=HAX.out.2.2; have h2:=H20.out.2; omega,fewL_of fun j hj=>hall.out j (by have:=HAX.out.1; omega)⟩) hL1 hkc1 hkw.out.1)
    clear hkc1 hL1 hkc hkw hall hlt hin
    go_wp2_with fail
    go_ret
    exact HX.out
theorem pfew_any {bc:Nat}:∀(k:Nat) (x:Ex) (lev L:Nat),lev+k=13→L≤80→∀(w:World) (vx:Value),w.heap[bc]?=some (.cells #[.int .i64 (L:Int)] 3 (0,0))→ExP w (fun b=>b≠bc) x vx→Calls Tryz.prog 24 #[vx,.int .i64 (lev:Int),.pointer (some ⟨bc,0,none⟩)] w (FwPost w bc k L x)
 | 0,x,lev,L,hl,hL,w,vx,h2,hex=>by
  obtain rfl:lev=13:=by omega
  obtain ⟨tx,ax,cx,rfl,htx,hax⟩:=hex.out
  obtain ⟨tax,tcx,rfl,-⟩:=id htx
  obtain ⟨wa,bx,hwa,hbx,hal,k0⟩:=new_box w #[.int .i64 x.op,.string ⟨x.c.toArray⟩,.slice tax x.t.length tcx,.string ⟨x.f.toArray⟩,.slice ax x.a.length cx] 30
  have HX:=ZH (show FwPost w bc 0 L x (.returned (.bool false)) wa from ⟨false,L,rfl,(fun h=>by cases h),Nat.le_refl _,(hal.block bc (ZL h2)).trans h2,gb_of hal⟩)
  have HW:=ZH (ZN hwa hbx)
  clear hwa hbx hal k0 h2 hex htx hax
  go_enter Tryz.func24,Tryz.ntmps24
  go_upto_region 1 with fail
  rw[←HW.out.1,←HW.out.2]
  clear HW
  go_wp2_with fail
  go_ret
  exact HX.out
 | k+1,x,lev,L,hl,hL,w,vx,h2,h3=>pfew_step (fun y lv L2 h1 h2 w vx h3 h4=>pfew_any k y lv L2 h1 h2 w vx h3 h4) hl hL h2 h3
end Go.Proofs.YtdcaaehapdhckaaGreatDoor
