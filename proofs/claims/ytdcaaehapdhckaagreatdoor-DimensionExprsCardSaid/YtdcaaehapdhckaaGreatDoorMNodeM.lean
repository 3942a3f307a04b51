/- dimension.node: the error of an expression without its arguments. -/
import Derived.Test.YtdcaaehapdhckaaGreatDoorEA
import Derived.Test.YtdcaaehapdhckaaGreatDoorKW
import Derived.Deep.LoopGhost
set_option linter.unusedSimpArgs false
set_option linter.unusedVariables false
set_option maxRecDepth 100000
namespace Go.Proofs.YtdcaaehapdhckaaGreatDoor
open Go.RowKit Go.Num Go.Flow
set_option maxHeartbeats 8000000
set_option linter.unusedVariables false

theorem sIndexI_any {w:World} {b n c:Nat} (vals:Nat→Int) (hrow:∀j,j<n→w.cell? ⟨b,j,none⟩=some (.int .i64 (vals j))) (hn:n≤c∧c≤1000) (o:Int):Calls Tryz.prog 177 #[.slice (some ⟨b,0,none⟩) n c,.int .i64 o] w fun e w'=>
  ∃r:Int,e=.returned (.int .i64 r)∧((0≤r∧∃j,j<n∧vals j=o)∨(r = -1∧∀j,j<n→vals j≠o))∧Below w.heap.size w w':=by
 have HR:=ZH hrow
 clear hrow
 go_enter Tryz.func177,Tryz.ntmps177
 go_wp2_with fail
 go_loopg [8] n (fun gk v wr=>∃i:Nat,i+gk=n∧v=.int .i64 i∧Hid (∀j,j<i→vals j≠o)∧Hid (Below w.heap.size w wr))
 case atStart=>exact ⟨0,by omega,rfl,ZH (fun j hj=>absurd hj (by omega)),ZH (ZR _ _)⟩
 case round=>
  obtain ⟨i,hin,rfl,hall,hbw⟩:=hrel
  by_cases hlt:i<n
  ·have e1:((i:Int)<(n:Int))=True:=eq_true (by omega)
   obtain ⟨q,hq⟩:∃q,q=vals i:=⟨_,rfl⟩
   have hc:=HR.out i hlt
   rw[←hq] at hc
   have x0:=ZJ hbw.out hc
   have hi0:(0:Int)≤(i:Int):=by omega
   have hi1:(i:Int)<(n:Int):=by omega
   have HLT:=ZH (ZN hlt (ZN hin hq))
   clear hc hq hlt hin
   by_cases ho:o=q
   ·have e2:(o==q)=true:=by simpa using ho
    have HX:=ZH (ZN (show 0≤(i:Int)∧∃j,j<n∧vals j=o from ⟨by omega,i,HLT.out.1,by rw[←HLT.out.2.2,ho]⟩) hbw.out)
    clear ho hall hbw
    go_wp2_with fail
    go_ret
    exact ⟨_,rfl,.inl HX.out.1,HX.out.2⟩
   ·have e2:(o==q)=false:=by simpa using ho
    have HNX:=ZH (show ∀j,j<i+1→vals j≠o from fun j hj=>by
     by_cases h:j<i
     ·exact hall.out j h
     ·obtain rfl:j=i:=by omega
      rw[←HLT.out.2.2]
      exact fun h=>ho h.symm)
    have HBN:=ZH hbw.out
    clear ho hall hbw
    go_wp2_with fail
    go_roundg (n-(i+1))
    case measure=>have:=HLT.out; omega
    case rel=>exact ⟨i+1,by have:=HLT.out; omega,by first | (congr 1; done) | (congr 1; exact IntWalk.wrap64_in ((i:Int)+1) (by have:=HLT.out; omega)),HNX,HBN⟩
  ·have e1:((i:Int)<(n:Int))=False:=eq_false (by omega)
   obtain rfl:i=n:=by omega
   have HX:=ZH (ZN hall.out hbw.out)
   clear hall hbw hlt hin
   go_wp2_with fail
   go_ret
   exact ⟨_,rfl,.inr ⟨rfl,HX.out.1⟩,HX.out.2⟩
theorem sContainsI_any {w:World} {b n c:Nat} (vals:Nat→Int) (hrow:∀j,j<n→w.cell? ⟨b,j,none⟩=some (.int .i64 (vals j))) (hn:n≤c∧c≤1000) (o:Int):Calls Tryz.prog 136 #[.slice (some ⟨b,0,none⟩) n c,.int .i64 o] w fun e w'=>
  ∃R:Bool,e=.returned (.bool R)∧(R=true↔∃j,j<n∧vals j=o)∧Below w.heap.size w w':=by
 have HI:=ZH (sIndexI_any vals hrow hn o)
 clear hrow
 go_enter Tryz.func136,Tryz.ntmps136
 go_wp2_with fail
 refine HI.out.mono ?_
 rintro e w1 ⟨r,rfl,hr,hb⟩
 have HB:=ZH hb
 clear hb HI
 rcases hr with ⟨h0,hj⟩ | ⟨rfl,hj⟩
 ·have e1:((0:Int)≤r)=True:=eq_true h0
  have HJ:=ZH hj
  clear h0 hj
  go_wp2_with fail
  go_ret
  exact ⟨_,rfl,⟨fun _=>HJ.out,fun _=>rfl⟩,HB.out⟩
 ·have HJ:=ZH hj
  clear hj
  go_wp2_with fail
  go_ret
  exact ⟨_,rfl,⟨fun h=>absurd h (by simp),fun ⟨j,h1,h2⟩=>absurd h2 (HJ.out j h1)⟩,HB.out⟩
theorem mknown_any (w:World) (o:Int):Calls Tryz.prog 103 #[.int .i64 o] w fun e w'=>e=.returned (.bool (decide (0≤o∧o≤5)))∧Below w.heap.size w w':=by
 obtain ⟨wa,ba,hwa,hba,hal,k0⟩:=new_box w #[.int .i64 0,.int .i64 1,.int .i64 2,.int .i64 3,.int .i64 4,.int .i64 5] 3
 have HI:=ZH (sContainsI_any (w:=wa) (b:=ba) (n:=6) (c:=6) (fun j=>(j:Int)) (fun j hj=>by
  rw[ZI k0 j]
  match j,hj with
  | 0,_=>rfl
  | 1,_=>rfl
  | 2,_=>rfl
  | 3,_=>rfl
  | 4,_=>rfl
  | 5,_=>rfl) (by omega) o)
 have HAL:=ZH hal
 have HW:=ZH (ZN hwa hba)
 clear hwa hba hal k0
 go_enter Tryz.func103,Tryz.ntmps103
 go_wp2_with fail
 rw[←HW.out.1,←HW.out.2]
 refine HI.out.mono ?_
 rintro e w1 ⟨R,rfl,hR,hb⟩
 have HB:=ZH (ZN (HAL.out.trans (hb.mono HAL.out.size)) (show R=decide (0≤o∧o≤5) by
  rw[Bool.eq_iff_iff,hR,decide_eq_true_eq]
  constructor
  ·rintro ⟨j,h1,rfl⟩; omega
  ·intro h; exact ⟨o.toNat,by omega,by show ((o.toNat:Nat):Int)=o; omega⟩))
 clear hb hR HI HW HAL
 go_wp2_with fail
 go_ret
 exact ⟨by rw[←HB.out.2]; rfl,HB.out.1⟩
theorem mnode_any {w:World} (hg:Glob w) {x:Ex} {v:Value} (hx:ExIn w x v) (hc:x.c.length≤4294967280) (hf:x.f.length≤4294967280) (ht:∀p,p∈x.t→p.2.length≤4294967280) (n:Int) :
  Calls Tryz.prog 63 #[v,.int .i64 n] w fun e w'=>e=.returned (.int .i64 (nodeErr x n))∧Below w.heap.size w w':=by
 obtain ⟨tx,ax,cx,rfl,htx,hax⟩:=hx.out
 obtain ⟨tax,tcx,rfl,p1,p2,-⟩:=id htx
 obtain ⟨_,_,ee,r1,r2,-⟩:=id hax
 simp only[Value.slice.injEq] at ee
 obtain ⟨rfl,-,rfl⟩:=ee
 obtain ⟨sx,hsx⟩:∃s:ByteArray,s=⟨x.c.toArray⟩:=⟨_,rfl⟩
 obtain ⟨fx,hfx⟩:∃s:ByteArray,s=⟨x.f.toArray⟩:=⟨_,rfl⟩
 obtain ⟨tn,htn⟩:∃q,q=x.t.length:=⟨_,rfl⟩
 obtain ⟨an,han⟩:∃q,q=x.a.length:=⟨_,rfl⟩
 obtain ⟨ox,hox⟩:∃q,q=x.op:=⟨_,rfl⟩
 obtain ⟨E,hE⟩:∃q,q=nodeErr x n:=⟨_,rfl⟩
 obtain ⟨KN,hKN⟩:∃q,q=decide (0≤ox∧ox≤5):=⟨_,rfl⟩
 unfold maxLen at p2 r2
 rw[←htn] at p1
 rw[←han] at r1
 have hcf:=fun (W:World) (hW:Below w.heap.size w W)=>mCheckForm_any (hg.below hW) (v:=.agg #[.string ⟨x.c.toArray⟩,.slice tax x.t.length tcx]) ⟨_,rfl,htx.below hW⟩ hc ht n
 have hnf:=fun (W:World) (hW:Below w.heap.size w W)=>number_any fx (by rw[hfx]; exact hf) (hg.below hW)
 rw[←hE,←hsx,←hfx,←htn,←han,←hox]
 simp only[←hsx,←htn] at hcf
 obtain ⟨wa,bx,hwa,hbx,hal,k0⟩:=new_box w #[.int .i64 ox,.string sx,.slice tax tn tcx,.string fx,.slice ax an cx] 30
 have HCF:=ZH (fun (W:World) (hW:Below wa.heap.size wa W)=>hcf W (hal.trans (hW.mono hal.size)))
 have HNF:=ZH (fun (W:World) (hW:Below wa.heap.size wa W)=>hnf W (hal.trans (hW.mono hal.size)))
 -- what the error is, by the cases of the parts
 have HE:=ZH (show E=(if ox=0 then if an≠0∨fx.toList≠[] then 3 else formErr x.c x.t n else if ox=2 then if an≠1∨sx.toList≠[]∨tn≠0 then 3 else readErr fx.data.toList 400 else if ox=1∨ox=3∨ox=4 then if an=0∨sx.toList≠[]∨tn≠0∨fx.toList≠[] then 3 else 0 else if ox=5 then if an≠1∨sx.toList≠[]∨tn≠0∨fx.toList≠[] then 3 else 0 else 12) by
  rw[hE,hox,han,htn,hsx,hfx,toArray_list,toArray_list]
  rfl)
 have hkw:=fun W:World=>mknown_any W ox
 rw[←hKN] at hkw
 have HKN:=ZH hkw
 have HKO:=ZH hKN
 have HAL:=ZH hal
 have HK:=ZH k0
 have HW:=ZH (ZN hwa hbx)
 obtain ⟨x0,x1,x2,x3,x4⟩:=cells5 (ZR _ wa) k0
 clear hwa hbx hal k0 htx hax hsx hfx htn han hox hE hx hcf hnf hc hf ht hKN hkw hg
 go_enter Tryz.func63,Tryz.ntmps63
 go_upto_region 1 with fail
 rw[←HW.out.1,←HW.out.2]
 clear HW
 by_cases o0:ox=0
 ·have a0:(ox==0)=true:=by rw[o0]; rfl
  have a1:(ox != 0)=false:=by rw[o0]; rfl
  have a2:(ox==2)=false:=by rw[o0]; rfl
  have a3:(ox != 2)=true:=by rw[o0]; rfl
  have hkn:KN=true:=by rw[HKO.out,o0]; rfl
  subst hkn
  have HO:=ZH o0
  clear o0
  cases q:fx.toList.isEmpty with
  | false=>
   have HX:=ZH (show E=3 by rw[HE.out,if_pos HO.out,if_pos (Or.inr (fun h=>by rw[h] at q; cases q))])
   have HKN0:=ZH (HKN.out wa)
   go_wp2_with fail
   refine HKN0.out.mono ?_
   rintro e w2 ⟨rfl,hb2⟩
   have HF:=ZH (HAL.out.trans (hb2.mono HAL.out.size))
   clear hb2
   go_wp2_with fail
   go_ret
   exact ⟨by rw[HX.out]; rfl,HF.out⟩
  | true=>
   have hq:fx.toList = []:=List.isEmpty_iff.1 q
   by_cases han:an=0
   ·have e1:(0<an)=False:=eq_false (by omega)
    have e2:((0:Int)<(an:Int))=False:=eq_false (by omega)
    have HX:=ZH (show E=formErr x.c x.t n by rw[HE.out,if_pos HO.out,if_neg (by rw[hq,han]; simp)])
    have HCF0:=ZH (HCF.out wa (ZR _ _))
    clear hq han
    go_wp2_with fail
    refine HCF0.out.mono ?_
    rintro e w2 ⟨rfl,hb2⟩
    have HF:=ZH (HAL.out.trans (hb2.mono HAL.out.size))
    clear hb2
    go_wp2_with fail
    go_ret
    exact ⟨by rw[HX.out]; rfl,HF.out⟩
   ·have e1:(0<an)=True:=eq_true (by omega)
    have e2:((0:Int)<(an:Int))=True:=eq_true (by omega)
    have HX:=ZH (show E=3 by rw[HE.out,if_pos HO.out,if_pos (Or.inl han)])
    have HF:=HAL
    go_wp2_with fail
    go_ret
    exact ⟨by rw[HX.out]; rfl,HF.out⟩
 ·have a0:(ox==0)=false:=by simpa using o0
  have a1:(ox != 0)=true:=by simpa using o0
  by_cases o2:ox=2
  ·have a2:(ox==2)=true:=by rw[o2]; rfl
   have a3:(ox != 2)=false:=by rw[o2]; rfl
   have b1:(ox==1)=false:=by rw[o2]; rfl
   have b3:(ox==3)=false:=by rw[o2]; rfl
   have b4:(ox==4)=false:=by rw[o2]; rfl
   have b5:(ox==5)=false:=by rw[o2]; rfl
   have hkn:KN=true:=by rw[HKO.out,o2]; rfl
   subst hkn
   have HO:=ZH (ZN o0 o2)
   clear o0 o2
   cases q:sx.toList.isEmpty with
   | false=>
    have HX:=ZH (show E=3 by rw[HE.out,if_neg HO.out.1,if_pos HO.out.2,if_pos (Or.inr (Or.inl (fun h=>by rw[h] at q; cases q)))])
    have HKN0:=ZH (HKN.out wa)
    go_wp2_with fail
    refine HKN0.out.mono ?_
    rintro e w2 ⟨rfl,hb2⟩
    have HF:=ZH (HAL.out.trans (hb2.mono HAL.out.size))
    clear hb2
    go_wp2_with fail
    go_ret
    exact ⟨by rw[HX.out]; rfl,HF.out⟩
   | true=>
    have hq:sx.toList = []:=List.isEmpty_iff.1 q
    by_cases htn:tn=0
    ·have e1:(0<tn)=False:=eq_false (by omega)
     have e2:((0:Int)<(tn:Int))=False:=eq_false (by omega)
     by_cases han:an=1
     ·have e3:((an:Int)==1)=true:=by simp; omega
      have e4:((an:Int) != 1)=false:=by simp; omega
      have e5:(an==1)=true:=by simp; omega
      have e6:(an != 1)=false:=by simp; omega
      have HX:=ZH (show E=readErr fx.data.toList 400 by rw[HE.out,if_neg HO.out.1,if_pos HO.out.2,if_neg (by rw[hq,han,htn]; simp)])
      have HNF0:=ZH (HNF.out wa (ZR _ _))
      obtain ⟨L,hL⟩:∃q,q=readErr fx.data.toList 400:=⟨_,rfl⟩
      rw[←hL] at HX
      have HL:=ZH hL
      unfold ReadPost at HNF0
      rw[←hL] at HNF0
      clear hq htn han hL
      go_wp2_with fail
      refine HNF0.out.mono ?_
      rintro e w2 ⟨v,rfl,hok,hno,hb2⟩
      have hv:∃s1 a1 c1 l1 s2 a2 c2 l2,v=.agg #[.bool s1,.slice a1 c1 l1,.bool s2,.slice a2 c2 l2]:=by
       by_cases h:L=0
       ·exact rt_shape (hok h)
       ·exact ⟨_,_,_,_,_,_,_,_,hno h⟩
      obtain ⟨s1,g1,c1,l1,s2,g2,c2,l2,rfl⟩:=hv
      have HF:=ZH (ZN (HAL.out.trans (hb2.mono HAL.out.size)) (fun (o:Obj)=>((HAL.out.trans (hb2.mono HAL.out.size)).alloc (Nat.le_trans HAL.out.size hb2.size) o)))
      clear hok hno hb2
      go_wp2_with fail
      go_ret
      exact ⟨by rw[HX.out]; rfl,HF.out.2 _⟩
     ·have e3:((an:Int)==1)=false:=by simp; omega
      have e4:((an:Int) != 1)=true:=by simp; omega
      have e5:(an==1)=false:=by simp; omega
      have e6:(an != 1)=true:=by simp; omega
      have HX:=ZH (show E=3 by rw[HE.out,if_neg HO.out.1,if_pos HO.out.2,if_pos (Or.inl han)])
      have HF:=HAL
      go_wp2_with fail
      go_ret
      exact ⟨by rw[HX.out]; rfl,HF.out⟩
    ·have e1:(0<tn)=True:=eq_true (by omega)
     have e2:((0:Int)<(tn:Int))=True:=eq_true (by omega)
     have HX:=ZH (show E=3 by rw[HE.out,if_neg HO.out.1,if_pos HO.out.2,if_pos (Or.inr (Or.inr htn))])
     have HKN0:=ZH (HKN.out wa)
     go_wp2_with fail
     refine HKN0.out.mono ?_
     rintro e w2 ⟨rfl,hb2⟩
     have HF:=ZH (HAL.out.trans (hb2.mono HAL.out.size))
     clear hb2
     go_wp2_with fail
     go_ret
     exact ⟨by rw[HX.out]; rfl,HF.out⟩
  ·have a2:(ox==2)=false:=by simpa using o2
   have a3:(ox != 2)=true:=by simpa using o2
   have HO:=ZH (ZN o0 o2)
   clear o0 o2
   have H3:=ZH (show ∀(_:sx.toList≠[]∨tn≠0∨fx.toList≠[]),E=if KN=true then 3 else 12 from fun h=>by
    rw[HE.out,if_neg HO.out.1,if_neg HO.out.2,HKO.out]
    by_cases h1:ox=1∨ox=3∨ox=4
    ·rw[if_pos h1,if_pos (Or.inr h),if_pos (ZT (by omega))]
    ·rw[if_neg h1]
     by_cases h5:ox=5
     ·rw[if_pos h5,if_pos (Or.inr h),if_pos (ZT (by omega))]
     ·rw[if_neg h5,if_neg (fun hd=>by have h6:=of_decide_eq_true hd; have h7:=HO.out; omega)])
   cases q:sx.toList.isEmpty with
   | false=>
    have hE3:=H3.out (Or.inl (fun h=>by rw[h] at q; cases q))
    cases KN with
    | false=>
     have HX:=ZH (show E=12 by rw[hE3]; rfl)
     have HKN0:=ZH (HKN.out wa)
     go_wp2_with fail
     refine HKN0.out.mono ?_
     rintro e w2 ⟨rfl,hb2⟩
     have HF:=ZH (HAL.out.trans (hb2.mono HAL.out.size))
     clear hb2
     go_wp2_with fail
     go_ret
     exact ⟨by rw[HX.out]; rfl,HF.out⟩
    | true=>
     have HX:=ZH (show E=3 by rw[hE3]; rfl)
     have HKN0:=ZH (HKN.out wa)
     go_wp2_with fail
     refine HKN0.out.mono ?_
     rintro e w2 ⟨rfl,hb2⟩
     have HF:=ZH (HAL.out.trans (hb2.mono HAL.out.size))
     clear hb2
     go_wp2_with fail
     go_ret
     exact ⟨by rw[HX.out]; rfl,HF.out⟩
   | true=>
    have hq:sx.toList = []:=List.isEmpty_iff.1 q
    by_cases htn:tn=0
    ·have e1:(0<tn)=False:=eq_false (by omega)
     have e2:((0:Int)<(tn:Int))=False:=eq_false (by omega)
     cases qf:fx.toList.isEmpty with
     | false=>
      have hE3:=H3.out (Or.inr (Or.inr (fun h=>by rw[h] at qf; cases qf)))
      cases KN with
      | false=>
       have HX:=ZH (show E=12 by rw[hE3]; rfl)
       have HKN0:=ZH (HKN.out wa)
       go_wp2_with fail
       refine HKN0.out.mono ?_
       rintro e w2 ⟨rfl,hb2⟩
       have HF:=ZH (HAL.out.trans (hb2.mono HAL.out.size))
       clear hb2
       go_wp2_with fail
       go_ret
       exact ⟨by rw[HX.out]; rfl,HF.out⟩
      | true=>
       have HX:=ZH (show E=3 by rw[hE3]; rfl)
       have HKN0:=ZH (HKN.out wa)
       go_wp2_with fail
       refine HKN0.out.mono ?_
       rintro e w2 ⟨rfl,hb2⟩
       have HF:=ZH (HAL.out.trans (hb2.mono HAL.out.size))
       clear hb2
       go_wp2_with fail
       go_ret
       exact ⟨by rw[HX.out]; rfl,HF.out⟩
     | true=>
      have hqf:fx.toList = []:=List.isEmpty_iff.1 qf
      have HQ:=ZH (ZN hq (ZN htn hqf))
      clear hq htn hqf H3
      by_cases o1:ox=1
      ·have b1:(ox==1)=true:=by rw[o1]; rfl
       have b3:(ox==3)=false:=by rw[o1]; rfl
       have b4:(ox==4)=false:=by rw[o1]; rfl
       have b5:(ox==5)=false:=by rw[o1]; rfl
       have HK1:=ZH o1
       clear o1
       by_cases han:an=0
       ·have e3:((an:Int)==0)=true:=by simp; omega
        have e5:(an==0)=true:=by simp; omega
        have HX:=ZH (show E=3 by rw[HE.out,if_neg HO.out.1,if_neg HO.out.2,if_pos (Or.inl HK1.out),if_pos (Or.inl han)])
        have HF:=HAL
        go_wp2_with fail
        go_ret
        exact ⟨by rw[HX.out]; rfl,HF.out⟩
       ·have e3:((an:Int)==0)=false:=by simp; omega
        have e5:(an==0)=false:=by simp; omega
        have HX:=ZH (show E=0 by rw[HE.out,if_neg HO.out.1,if_neg HO.out.2,if_pos (Or.inl HK1.out),if_neg (by rw[HQ.out.1,HQ.out.2.2]; have:=HQ.out.2.1; simp; omega)])
        have HF:=HAL
        go_wp2_with fail
        go_ret
        exact ⟨by rw[HX.out]; rfl,HF.out⟩
      have b1:(ox==1)=false:=by simpa using o1
      by_cases o3:ox=3
      ·have b3:(ox==3)=true:=by rw[o3]; rfl
       have b4:(ox==4)=false:=by rw[o3]; rfl
       have b5:(ox==5)=false:=by rw[o3]; rfl
       have HK1:=ZH o3
       clear o3
       by_cases han:an=0
       ·have e3:((an:Int)==0)=true:=by simp; omega
        have e5:(an==0)=true:=by simp; omega
        have HX:=ZH (show E=3 by rw[HE.out,if_neg HO.out.1,if_neg HO.out.2,if_pos (Or.inr (Or.inl HK1.out)),if_pos (Or.inl han)])
        have HF:=HAL
        go_wp2_with fail
        go_ret
        exact ⟨by rw[HX.out]; rfl,HF.out⟩
       ·have e3:((an:Int)==0)=false:=by simp; omega
        have e5:(an==0)=false:=by simp; omega
        have HX:=ZH (show E=0 by rw[HE.out,if_neg HO.out.1,if_neg HO.out.2,if_pos (Or.inr (Or.inl HK1.out)),if_neg (by rw[HQ.out.1,HQ.out.2.2]; have:=HQ.out.2.1; simp; omega)])
        have HF:=HAL
        go_wp2_with fail
        go_ret
        exact ⟨by rw[HX.out]; rfl,HF.out⟩
      have b3:(ox==3)=false:=by simpa using o3
      by_cases o4:ox=4
      ·have b4:(ox==4)=true:=by rw[o4]; rfl
       have b5:(ox==5)=false:=by rw[o4]; rfl
       have HK1:=ZH o4
       clear o4
       by_cases han:an=0
       ·have e3:((an:Int)==0)=true:=by simp; omega
        have e5:(an==0)=true:=by simp; omega
        have HX:=ZH (show E=3 by rw[HE.out,if_neg HO.out.1,if_neg HO.out.2,if_pos (Or.inr (Or.inr HK1.out)),if_pos (Or.inl han)])
        have HF:=HAL
        go_wp2_with fail
        go_ret
        exact ⟨by rw[HX.out]; rfl,HF.out⟩
       ·have e3:((an:Int)==0)=false:=by simp; omega
        have e5:(an==0)=false:=by simp; omega
        have HX:=ZH (show E=0 by rw[HE.out,if_neg HO.out.1,if_neg HO.out.2,if_pos (Or.inr (Or.inr HK1.out)),if_neg (by rw[HQ.out.1,HQ.out.2.2]; have:=HQ.out.2.1; simp; omega)])
        have HF:=HAL
        go_wp2_with fail
        go_ret
        exact ⟨by rw[HX.out]; rfl,HF.out⟩
      have b4:(ox==4)=false:=by simpa using o4
      have HN3:=ZH (show ¬(ox=1∨ox=3∨ox=4) by omega)
      clear o1 o3 o4
      by_cases o5:ox=5
      ·have b5:(ox==5)=true:=by rw[o5]; rfl
       have HK1:=ZH o5
       clear o5
       by_cases han:an=1
       ·have e3:((an:Int)==1)=true:=by simp; omega
        have e4:((an:Int) != 1)=false:=by simp; omega
        have e5:(an==1)=true:=by simp; omega
        have e6:(an != 1)=false:=by simp; omega
        have HX:=ZH (show E=0 by rw[HE.out,if_neg HO.out.1,if_neg HO.out.2,if_neg HN3.out,if_pos HK1.out,if_neg (by rw[HQ.out.1,HQ.out.2.2]; have:=HQ.out.2.1; simp; omega)])
        have HF:=HAL
        go_wp2_with fail
        go_ret
        exact ⟨by rw[HX.out]; rfl,HF.out⟩
       ·have e3:((an:Int)==1)=false:=by simp; omega
        have e4:((an:Int) != 1)=true:=by simp; omega
        have e5:(an==1)=false:=by simp; omega
        have e6:(an != 1)=true:=by simp; omega
        have HX:=ZH (show E=3 by rw[HE.out,if_neg HO.out.1,if_neg HO.out.2,if_neg HN3.out,if_pos HK1.out,if_pos (Or.inl han)])
        have HF:=HAL
        go_wp2_with fail
        go_ret
        exact ⟨by rw[HX.out]; rfl,HF.out⟩
      ·have b5:(ox==5)=false:=by simpa using o5
       have HK1:=ZH o5
       clear o5
       have HX:=ZH (show E=12 by rw[HE.out,if_neg HO.out.1,if_neg HO.out.2,if_neg HN3.out,if_neg HK1.out])
       have HF:=HAL
       go_wp2_with fail
       go_ret
       exact ⟨by rw[HX.out]; rfl,HF.out⟩
    ·have e1:(0<tn)=True:=eq_true (by omega)
     have e2:((0:Int)<(tn:Int))=True:=eq_true (by omega)
     have hE3:=H3.out (Or.inr (Or.inl htn))
     cases KN with
     | false=>
      have HX:=ZH (show E=12 by rw[hE3]; rfl)
      have HKN0:=ZH (HKN.out wa)
      go_wp2_with fail
      refine HKN0.out.mono ?_
      rintro e w2 ⟨rfl,hb2⟩
      have HF:=ZH (HAL.out.trans (hb2.mono HAL.out.size))
      clear hb2
      go_wp2_with fail
      go_ret
      exact ⟨by rw[HX.out]; rfl,HF.out⟩
     | true=>
      have HX:=ZH (show E=3 by rw[hE3]; rfl)
      have HKN0:=ZH (HKN.out wa)
      go_wp2_with fail
      refine HKN0.out.mono ?_
      rintro e w2 ⟨rfl,hb2⟩
      have HF:=ZH (HAL.out.trans (hb2.mono HAL.out.size))
      clear hb2
      go_wp2_with fail
      go_ret
      exact ⟨by rw[HX.out]; rfl,HF.out⟩
end Go.Proofs.YtdcaaehapdhckaaGreatDoor

