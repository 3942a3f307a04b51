/- DimensionExprs: the walk. -/
import Derived.Test.YtdcaaehapdhckaaGreatDoorK6
import Derived.Test.YtdcaaehapdhckaaGreatDoorMEqual2M
import Derived.Test.YtdcaaehapdhckaaGreatDoorED
import Derived.Test.YtdcaaehapdhckaaGreatDoorMCheckXM
set_option linter.unusedSimpArgs false
set_option linter.unusedVariables false
set_option maxRecDepth 100000
namespace Go.Proofs.YtdcaaehapdhckaaGreatDoor
open List renaming setIfInBounds_toArray → zLa, set_cons_zero → zLb, set_cons_succ → zLc
open FlowR renaming putSel → zFp
open Act renaming put → zAp
open Nat renaming zero_add → zNz
open Flow.Steps renaming cons → zSc, nil → zSn
open FlowR.Step renaming of → zSo
open Go.RowKit Go.Num Go.Flow
set_option maxHeartbeats 8000000
set_option linter.unusedVariables false

mutual
theorem termsE_up {m n:Nat} (h:m≤n):∀{x:Ex},TermsE m x→TermsE n x
 | .mk o c t f a,hx=>by
  rw[TermsE] at hx⊢
  exact ⟨Nat.le_trans hx.1 h,termsL_up h hx.2⟩
theorem termsL_up {m n:Nat} (h:m≤n):∀{l:List Ex},TermsL m l→TermsL n l
 | [],_=>by rw[TermsL]; trivial
 | x::l,hl=>by
  rw[TermsL] at hl⊢
  exact ⟨termsE_up h hl.1,termsL_up h hl.2⟩
end
theorem said_DimensionExprs {w:World} (hG:Glob w) {x:Ex} {vx:Value} (hx:ExIn w x vx) (n:Int) (hn:(Lit.int .i64 n).wf=true):Calls Tryz.prog 5 #[vx,.int .i64 n] w fun e w'=>e=.returned (.bool true)∧Below w.heap.size w w':=by
 obtain ⟨tx,ax,cx,rfl,htx,-⟩:=hx.out
 obtain ⟨tax,tcx,rfl,-⟩:=id htx
 obtain ⟨sx,hsx⟩:∃s:ByteArray,s=⟨x.c.toArray⟩:=⟨_,rfl⟩
 obtain ⟨fx,hfx⟩:∃s:ByteArray,s=⟨x.f.toArray⟩:=⟨_,rfl⟩
 obtain ⟨tn,htn⟩:∃q,q=x.t.length:=⟨_,rfl⟩
 obtain ⟨an,han⟩:∃q,q=x.a.length:=⟨_,rfl⟩
 obtain ⟨ox,hox⟩:∃q,q=x.op:=⟨_,rfl⟩
 rw[←hsx,←hfx,←htn,←han,←hox] at hx⊢
 obtain ⟨wa,bx,bl,hwa,hbx,hbl,hal,k0,k1⟩:=new_two w #[.int .i64 ox,.string sx,.slice tax tn tcx,.string fx,.slice ax an cx] #[.int .i64 80] 30 3
 have HX:=ZH hx
 have HGW:=ZH hG
 have HG:=ZH (hG.below hal)
 have HAL:=ZH hal
 have HK:=ZH (ZN k0 k1)
 have HNE:=ZH (show bx≠bl∧w.heap.size≤bl by omega)
 have HW:=ZH (ZN hwa (ZN hbx hbl))
 clear hwa hbx hbl hal k0 k1 hG hn hsx hfx htn han hox htx hx
 go_enter Tryz.func5,Tryz.ntmps5
 go_upto_region 2 with fail
 rw[←HW.out.1,←HW.out.2.2,←HW.out.2.1]
 clear HW
 go_wp2_with fail
 refine (pknown_any HG.out).mono ?_
 rintro e w1 ⟨rfl,hb1⟩
 have HB1:=ZH hb1
 obtain ⟨x0,x1,x2,x3,x4⟩:=cells5 hb1 HK.out.1
 have hkl:=(hb1.block bl (ZL HK.out.2)).trans HK.out.2
 have hw01:=HAL.out.trans (hb1.mono HAL.out.size)
 have hat:=(HX.out.at.keep (Keep.of_below hw01)).mono (Q:=fun b=>b≠bl) fun b hb _=>by have:=HNE.out.2; omega
 have hfew:=pfew_any (bc:=bl) 12 x 1 80 (by omega) (by omega) w1 _ hkl hat
 unfold FwPost at hfew
 have HFW:=ZH hfew
 clear hb1 hkl hw01 hat hfew
 go_wp2_with fail
 refine HFW.out.mono ?_
 rintro e w2 ⟨b,L',rfl,hb,-,-,hg2⟩
 have HB2:=ZH (gb_below (HAL.out.trans (HB1.out.mono HAL.out.size)) hg2 HNE.out.2)
 have HKX2:=ZH ((gb_keep hg2).same HNE.out.1 ((HB1.out.block bx (ZL HK.out.1)).trans HK.out.1))
 have HG2:=ZH (HGW.out.below HB2.out)
 clear hg2 HFW x0 x1 x2 x3 x4
 cases b with
 | false=>
  clear hb
  have HKN:=ZH (pknown_any HG2.out)
  go_wp2_with fail
  refine HKN.out.mono ?_
  rintro e w3 ⟨rfl,hb3⟩
  have HE:=ZH (HB2.out.trans (hb3.mono HB2.out.size))
  clear hb3
  go_wp2_with fail
  go_ret
  exact ⟨rfl,HE.out⟩
 | true=>
  have HFW:=ZH (hb rfl)
  have HXX:=ZH (HX.out.below HB2.out)
  have HWR:=ZH (ZR w2.heap.size w2)
  obtain ⟨E,hE⟩:∃E,E=exprErr x n:=⟨_,rfl⟩
  have HE:=ZH hE
  clear hb hE
  go_upto_region 4 with fail
  refine FlowR.wp_region_sel (fun a b=>Below a.heap.size a b) (fun a=>ZR _ a) (fun _ _ _ h k=>h.trans (k.mono h.size)) [0,1,2,3,4,5,6,7,8,9,10,11] [false,false,false,false,false,false,false,false,false,false,false,false,false] [true,true,true,true,true,true,true,true,true,true,true,true,false] (fun i9 v w'=>match i9 with
   | 0=>v=.agg #[.int .i64 ox,.string sx,.slice tax tn tcx,.string fx,.slice ax an cx]
   | 1=>v=.int .i64 n
   | 2=>v=.int .i64 E
   | 3=>v=.agg #[.int .i64 ox,.string sx,.slice tax tn tcx,.string fx,.slice ax an cx]
   | 4=>v=.int .i64 n
   | 5=>v=.int .i64 E
   | 6=>v=.bool true
   | 7=>v=.bool true
   | 8=>(true)=true→v=.agg #[.int .i64 ox,.string sx,.slice tax tn tcx,.string fx,.slice ax an cx]
   | 9=>(true)=true→v=.agg #[.int .i64 ox,.string sx,.slice tax tn tcx,.string fx,.slice ax an cx]
   | 10=>(true)=true→v=.bool true
   | _=>v=.bool (true&&true)) rfl rfl (by kernel_rfl) (by kernel_rfl) (by kernel_rfl) (by kernel_rfl) ?st ?_ ?_
  case st=>
   intro i9 v u1 u2 h hb
   match i9 with
   | 0 | 1 | 2 | 3 | 4 | 5 | 6 | 7 | 8 | 9 | 10 | 11 | _+12=>exact h
  refine zSc (zSo rfl ?s0) (zSc (zSo rfl ?s1) (zSc (zSo rfl ?s2) (zSc (zSo rfl ?s3) (zSc (zSo rfl ?s4) (zSc (zSo rfl ?s5) (zSc (zSo rfl ?s6) (zSc (zSo rfl ?s7) (zSc (zSo rfl ?s8) (zSc (zSo rfl ?s9) (zSc (zSo rfl ?s10) (zSc (zSo rfl ?s11) zSn)))))))))))
  case s0 | s3=>
   intro xs w' hb hT K9 hK9
   clear hT
   simp only[zFp,zAp,zLa,zLb,zLc,Nat.reduceAdd,zNz] at hK9⊢
   have hw:=Flow.hwD HWR.out hb
   obtain ⟨y0,y1,y2,y3,y4⟩:=cells5 hw HKX2.out
   go_simp
   exact hK9 _ _ (ZR _ _) rfl
  case s1 | s4=>
   intro xs w' hb hT K9 hK9
   clear hT
   simp only[zFp,zAp,zLa,zLb,zLc,Nat.reduceAdd,zNz] at hK9⊢
   have hw:=Flow.hwD HWR.out hb
   go_simp
   exact hK9 _ _ (ZR _ _) rfl
  case s2=>
   intro xs w' hb hT K9 hK9
   have h0:(xs 0)=.agg #[.int .i64 ox,.string sx,.slice tax tn tcx,.string fx,.slice ax an cx]:=hT 0 (by kernel_rfl)
   have h1:(xs 1)=.int .i64 n:=hT 1 (by kernel_rfl)
   clear hT
   simp only[zFp,zAp,zLa,zLb,zLc,Nat.reduceAdd,zNz] at hK9⊢
   have hw:=Flow.hwD HWR.out hb
   (try simp only[h0] at hK9)
   (try simp only[h1] at hK9)
   have hce:=mCheckExpr_any (HG2.out.below hw) HFW.out (by omega) (HXX.out.below hw) n
   rw[←HE.out] at hce
   go_simp
   go_at_call 25
   refine hce.mono ?_
   rintro e w3 ⟨rfl,hb3⟩
   exact hK9 _ _ hb3 rfl
  case s5=>
   intro xs w' hb hT K9 hK9
   have h3:(xs 3)=.agg #[.int .i64 ox,.string sx,.slice tax tn tcx,.string fx,.slice ax an cx]:=hT 3 (by kernel_rfl)
   have h4:(xs 4)=.int .i64 n:=hT 4 (by kernel_rfl)
   clear hT
   simp only[zFp,zAp,zLa,zLb,zLc,Nat.reduceAdd,zNz] at hK9⊢
   have hw:=Flow.hwD HWR.out hb
   (try simp only[h3] at hK9)
   (try simp only[h4] at hK9)
   have hce:=pcheckExpr_any (HG2.out.below hw) HFW.out (by omega) (HXX.out.below hw) n
   rw[←HE.out] at hce
   go_simp
   go_at_call 26
   refine hce.mono ?_
   rintro e w3 ⟨rfl,hb3⟩
   exact hK9 _ _ hb3 rfl
  case s6=>
   intro xs w' hb hT K9 hK9
   have h2:(xs 2)=.int .i64 E:=hT 2 (by kernel_rfl)
   have h5:(xs 5)=.int .i64 E:=hT 5 (by kernel_rfl)
   clear hT
   simp only[zFp,zAp,zLa,zLb,zLc,Nat.reduceAdd,zNz] at hK9⊢
   have hw:=Flow.hwD HWR.out hb
   (try simp only[h2] at hK9)
   (try simp only[h5] at hK9)
   go_simp
   exact hK9 _ _ (ZR _ _) rfl
  case s7=>
   intro xs w' hb hT K9 hK9
   have h6:(xs 6)=.bool true:=hT 6 (by kernel_rfl)
   clear hT
   simp only[zFp,zAp,zLa,zLb,zLc,Nat.reduceAdd,zNz] at hK9⊢
   have hw:=Flow.hwD HWR.out hb
   (try simp only[h6] at hK9)
   go_simp
   exact hK9 _ _ (ZR _ _) rfl
  case s8 | s9=>
   intro xs w' hb hT K9 hK9
   have h7:(xs 7)=.bool true:=hT 7 (by kernel_rfl)
   clear hT
   simp only[zFp,zAp,zLa,zLb,zLc,Nat.reduceAdd,zNz] at hK9⊢
   have hw:=Flow.hwD HWR.out hb
   have hg:(true)=true:=rfl
   obtain ⟨y0,y1,y2,y3,y4⟩:=cells5 hw HKX2.out
   (try simp only[h7] at hK9)
   go_simp
   exact hK9 _ _ (ZR _ _) (fun _=>rfl)
  case s10=>
   intro xs w' hb hT K9 hK9
   have h7:(xs 7)=.bool true:=hT 7 (by kernel_rfl)
   have h8:(true)=true→(xs 8)=.agg #[.int .i64 ox,.string sx,.slice tax tn tcx,.string fx,.slice ax an cx]:=hT 8 (by kernel_rfl)
   have h9:(true)=true→(xs 9)=.agg #[.int .i64 ox,.string sx,.slice tax tn tcx,.string fx,.slice ax an cx]:=hT 9 (by kernel_rfl)
   clear hT
   simp only[zFp,zAp,zLa,zLb,zLc,Nat.reduceAdd,zNz] at hK9⊢
   have hw:=Flow.hwD HWR.out hb
   have hg:(true)=true:=rfl
   replace h8:=h8 hg
   replace h9:=h9 hg
   (try simp only[h7] at hK9)
   (try simp only[h8] at hK9)
   (try simp only[h9] at hK9)
   have hqe:=mEqual_any 12 x x (few_dep HFW.out).1 (termsE_up (by omega) (few_dep HFW.out).2) w' _ _ (HXX.out.below hw) (HXX.out.below hw)
   rw[(sameE_iff x x).2 rfl] at hqe
   go_simp
   go_at_call 27
   refine hqe.mono ?_
   rintro e w3 ⟨rfl,hb3⟩
   exact hK9 _ _ hb3 (fun _=>rfl)
  case s11=>
   intro xs w' hb hT K9 hK9
   have h7:(xs 7)=.bool true:=hT 7 (by kernel_rfl)
   have h10:(true)=true→(xs 10)=.bool true:=hT 10 (by kernel_rfl)
   clear hT
   simp only[zFp,zAp,zLa,zLb,zLc,Nat.reduceAdd,zNz] at hK9⊢
   have hw:=Flow.hwD HWR.out hb
   have hg:(true)=true:=rfl
   replace h10:=h10 hg
   (try simp only[h7] at hK9)
   (try simp only[h10] at hK9)
   go_simp
   exact hK9 _ _ (ZR _ _) (by simp)
  intro xs w' hb hT
  have hw:=Flow.hwD HWR.out hb
  have h11:(xs 11)=.bool (true&&true):=hT 11 (by rfl)
  clear hT
  simp only[zFp,zAp,zLa,zLb,zLc,Nat.reduceAdd,zNz,FlowR.restL,FlowR.orM,Bool.false_or]
  have e25:xs 11=.bool true:=by simpa using h11
  simp only[e25]
  have HF:=ZH (HB2.out.trans (hw.mono HB2.out.size))
  clear h11 e25 hw hb
  go_wp2_with fail
  go_ret
  exact ⟨rfl,HF.out⟩
end Go.Proofs.YtdcaaehapdhckaaGreatDoor

