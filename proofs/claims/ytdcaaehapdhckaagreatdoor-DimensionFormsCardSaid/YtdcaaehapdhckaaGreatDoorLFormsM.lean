/- DimensionForms: the walk. -/
import Derived.Test.YtdcaaehapdhckaaGreatDoorK6
import Derived.Test.YtdcaaehapdhckaaGreatDoorKT
import Derived.Test.YtdcaaehapdhckaaGreatDoorKU
import Derived.Test.YtdcaaehapdhckaaGreatDoorK2
set_option linter.unusedSimpArgs false
set_option linter.unusedVariables false
set_option maxRecDepth 100000
namespace Go.Proofs.YtdcaaehapdhckaaGreatDoor
open List renaming setIfInBounds_toArray → zLa, set_cons_zero → zLb, set_cons_succ → zLc
open FlowR renaming putSel → zFp
open Act renaming put → zAp
open Nat renaming zero_add → zNz
open Flow.Steps renaming cons → zSc, nil → zSn
open FlowR.Step renaming of → zSo
open Go.RowKit Go.Num Go.Flow
set_option maxHeartbeats 8000000
set_option linter.unusedVariables false

theorem long_err : formErr onesL [] 1=5:=by
 unfold formErr
 rw[if_neg (by omega)]
 have h:readErr onesL 400=5:=by
  unfold readErr
  rw[if_pos (by unfold onesL; rw[List.length_replicate]; omega)]
 rw[h]
 rfl
theorem err_more {l:List UInt8} (h:readErr l 400=0):readErr l 65536=0∧l.length≤400:=by
 unfold readErr at h⊢
 by_cases h1:400<l.length
 ·rw[if_pos h1] at h; exact absurd h (by decide)
 ·rw[if_neg h1] at h
  rw[if_neg (by omega)]
  exact ⟨h,by omega⟩
theorem form_fine {w:World} {v:Value} {c:List UInt8} {L:List (Int×List UInt8)} (hf:FormZ w v c L) (h:formErr c L 64=0):∃N:List (Nat×List UInt8),FormAt w v c N∧N.length≤64∧(c.length≤400∧readErr c 400=0∧readErr c 65536=0)∧(N.Pairwise fun a b=>a.1<b.1)∧(∀p,p∈N→fineTerm 64 400 p)∧(∀j,j<N.length→(N.getD j (0,[])).2.length≤400∧readErr (N.getD j (0,[])).2 400=0):=by
 obtain ⟨hz,hc,hl,hp,ht⟩:=fine_form h
 obtain ⟨tv,rfl,htz⟩:=hf
 refine ⟨natTerms L,⟨tv,rfl,TermsZ.nat (by rw[hz]; exact htz)⟩,by unfold natTerms; rw[List.length_map]; exact hl,⟨(err_more hc).2,hc,(err_more hc).1⟩,hp,fun p hp=>⟨(ht p hp).1,(err_more (ht p hp).2).2,(err_more (ht p hp).2).1⟩,fun j hj=>?_⟩
 have hm:(natTerms L).getD j (0,[])∈natTerms L:=by
  rw[List.getD_eq_getElem?_getD,List.getElem?_eq_getElem hj]
  exact List.getElem_mem hj
 exact ⟨(err_more (ht _ hm).2).2,(ht _ hm).2⟩
theorem FormIn.z {w:World} {B:Nat} {v:Value} {c:List UInt8} {l:List (Nat×List UInt8)} (h:FormIn w B v c l):FormZ w v c (zTerms l):=by
 obtain ⟨tv,rfl,ht⟩:=h
 exact ⟨tv,rfl,ht.reads.z⟩
theorem ex_form {w:World} {tv:Value} {c:List UInt8} {t:List (Int×List UInt8)} (h:TermsZ w tv t):ExIn w (.mk 0 c t [] []) (.agg #[.int .i64 0,.string ⟨c.toArray⟩,tv,.string ⟨#[]⟩,.slice none 0 0]):=ExIn.of (x:=.mk 0 c t [] []) h (exs_none _)
theorem few_len {c:List UInt8} {L:List (Int×List UInt8)} (h:fewT c L):c.length≤4294967280∧∀p,p∈L→p.2.length≤4294967280:=by
 refine ⟨by have:=h.2.2; omega,fun p hp=>?_⟩
 obtain ⟨j,hj,rfl⟩:=List.getElem_of_mem hp
 have h1:=h.1 j hj
 rw[List.getD_eq_getElem?_getD,List.getElem?_eq_getElem hj] at h1
 simp only[Option.getD_some] at h1
 omega
theorem said_DimensionForms {w:World} (hG:Glob w) {vf vg:Value} {c d:List UInt8} {L M:List (Int×List UInt8)} (hf:FormZ w vf c L) (hg:FormZ w vg d M) (n:Int) (hn:(Lit.int .i64 n).wf=true):Calls Tryz.prog 4 #[vf,vg,.int .i64 n] w fun e w'=>e=.returned (.bool true)∧Below w.heap.size w w':=by
 have HF:=ZH (ZN hf hg)
 obtain ⟨tv,rfl,ao,ca,rfl,-,-,-⟩:=hf
 obtain ⟨tv2,rfl,ao2,ca2,rfl,-,-,-⟩:=hg
 obtain ⟨s,hs⟩:∃s:ByteArray,s=⟨c.toArray⟩:=⟨_,rfl⟩
 obtain ⟨t,ht⟩:∃s:ByteArray,s=⟨d.toArray⟩:=⟨_,rfl⟩
 obtain ⟨k,hk⟩:∃n,n=L.length:=⟨_,rfl⟩
 obtain ⟨m,hm⟩:∃n,n=M.length:=⟨_,rfl⟩
 rw[←hs,←ht,←hk,←hm] at HF⊢
 obtain ⟨wa,bf,bg,hwa,hbf,hbg,hal,k0,k1⟩:=new_two w #[.string s,.slice ao k ca] #[.string t,.slice ao2 m ca2] 27 27
 have HG:=ZH (hG.below hal)
 have HK:=ZH (ZN k0 k1)
 have HAL:=ZH hal
 have HS:=ZH (ZN hs ht)
 have HW:=ZH (ZN hwa (ZN hbf hbg))
 clear hwa hbf hbg hal k0 k1 hG hn hs ht hk hm
 go_enter Tryz.func4,Tryz.ntmps4
 go_upto_region 1 with fail
 rw[←HW.out.1,←HW.out.2.2,←HW.out.2.1]
 clear HW
 go_wp2_with fail
 refine (pknown_any HG.out).mono ?_
 rintro e w1 ⟨rfl,hb1⟩
 have HB1:=ZH hb1
 obtain ⟨x0,x1⟩:=cells2 hb1 HK.out.1
 have HFW:=ZH (pfewTerms_any ((HF.out.1.below HAL.out).below hb1))
 clear hb1
 go_wp2_with fail
 refine HFW.out.mono ?_
 rintro e w2 ⟨b,rfl,hb,hb2⟩
 have HB2:=ZH (HB1.out.trans (hb2.mono HB1.out.size))
 have HKN:=ZH (pknown_any (HG.out.below HB2.out))
 clear hb2 HFW x0 x1
 cases b with
 | false=>
  clear hb
  go_wp2_with fail
  refine HKN.out.mono ?_
  rintro e w3 ⟨rfl,hb3⟩
  have HE:=ZH (HAL.out.trans ((HB2.out.trans (hb3.mono HB2.out.size)).mono HAL.out.size))
  clear hb3
  go_wp2_with fail
  go_ret
  exact ⟨rfl,HE.out⟩
 | true=>
  have HC1:=ZH (hb.1 rfl)
  clear hb HKN
  obtain ⟨y0,y1⟩:=cells2 HB2.out HK.out.2
  have HFW:=ZH (pfewTerms_any ((HF.out.2.below HAL.out).below HB2.out))
  go_wp2_with fail
  refine HFW.out.mono ?_
  rintro e w3 ⟨b,rfl,hb,hb3⟩
  have HB3:=ZH (HB2.out.trans (hb3.mono HB2.out.size))
  have HKN:=ZH (pknown_any (HG.out.below HB3.out))
  clear hb3 HFW y0 y1
  cases b with
  | false=>
   clear hb
   go_wp2_with fail
   refine HKN.out.mono ?_
   rintro e w4 ⟨rfl,hb4⟩
   have HE:=ZH (HAL.out.trans ((HB3.out.trans (hb4.mono HB3.out.size)).mono HAL.out.size))
   clear hb4
   go_wp2_with fail
   go_ret
   exact ⟨rfl,HE.out⟩
  | true=>
   have HC2:=ZH (hb.1 rfl)
   clear hb HKN HB1 HB2
   have hmk:=make_401
   go_upto_region 4 with fail
   clear hmk
   obtain ⟨w4,hw4⟩:∃x,x=w3.alloc (.cells (madeCells #[.int .u8 0] 401) 5):=⟨_,rfl⟩
   obtain ⟨bl,hbl⟩:∃x,x=w3.heap.size:=⟨_,rfl⟩
   rw[←hw4,←hbl]
   have h4:Below w3.heap.size w3 w4:=by rw[hw4]; exact (ZR _ w3).alloc (Nat.le_refl _) _
   have HO:=ZH (show OnesAt w4 bl 0 from by rw[hw4,hbl]; exact ones_made w3)
   have HB4:=ZH (HB3.out.trans (h4.mono HB3.out.size))
   have HGE:=ZH (show wa.heap.size≤bl from by rw[hbl]; exact HB3.out.size)
   clear hw4 hbl h4 HB3
   go_wp2_with fail
   go_loopg [8] 401 (fun gk i wr=>∃q:Nat,q+gk=401∧i=.int .i64 q∧Hid (OnesAt wr bl q)∧Hid (Below wa.heap.size wa wr))
   case atStart=>exact ⟨0,by omega,rfl,HO,HB4⟩
   case round=>
    obtain ⟨q,hq,rfl,hones,hbw⟩:=hrel
    by_cases hlt:q<401
    ·have e1:((q:Int)<(401:Int))=True:=eq_true (by omega)
     obtain ⟨hc0,hc1⟩:=hones.out.at hlt
     rw[if_neg (Nat.lt_irrefl q)] at hc0
     have hi0:(0:Int)≤(q:Int):=by omega
     have hi1:(q:Int)<(401:Int):=by omega
     have HNX:=ZH hones.out.set
     have HBN:=ZH (hbw.out.setCell (p:=⟨bl,q,none⟩) HGE.out (.int .u8 49))
     have HLT:=ZH (ZN hlt hq)
     clear hlt hones hbw hq
     go_wp2_with fail
     go_roundg (401-(q+1))
     case measure=>have:=HLT.out; omega
     case rel=>exact ⟨q+1,by have:=HLT.out; omega,by first | (congr 1; done) | (congr 1; exact IntWalk.wrap64_in ((q:Int)+1) (by have:=HLT.out; omega)),HNX,HBN⟩
    ·have e1:((q:Int)<(401:Int))=False:=eq_false (by omega)
     obtain rfl:q=401:=by omega
     have HO5:=ZH hones.out
     have HB5:=ZH hbw.out
     have HWR:=ZH (ZR wr.heap.size wr)
     have HKR:=ZH (ZN ((hbw.out.block bf (ZL HK.out.1)).trans HK.out.1) ((hbw.out.block bg (ZL HK.out.2)).trans HK.out.2))
     have HFR:=ZH (ZN ((HF.out.1.below HAL.out).below hbw.out) ((HF.out.2.below HAL.out).below hbw.out))
     have HGR:=ZH (HG.out.below hbw.out)
     obtain ⟨SL,hSL⟩:∃x:ByteArray,x=⟨onesL.toArray⟩:=⟨_,rfl⟩
     have HSL:=ZH hSL
     obtain ⟨E,hE⟩:∃x,x=formErr c L n:=⟨_,rfl⟩
     have HEE:=ZH hE
     clear hlt hones hbw hq HO HB4 hSL hE
     go_upto_region 8 with fail
     clear e1
     refine FlowR.wp_region_sel (fun a b=>Below a.heap.size a b) (fun a=>ZR _ a) (fun _ _ _ h k=>h.trans (k.mono h.size)) [0,1,2,3,4,5,6,7,8,9,10,11,12,13] [false,false,false,false,false,false,false,false,false,false,false,false,false,false] [true,true,true,true,true,true,true,true,true,true,true,true,true,true] (fun i9 v w'=>match i9 with
      | 0=>v=.slice (some ⟨bl,0,none⟩) 401 401
      | 1=>v=.string SL
      | 2=>v=.agg #[.string SL,.slice none 0 0]
      | 3=>v=.int .i64 5
      | 4=>v=.bool false
      | 5=>v=.bool false
      | 6=>(false)=false→v=.agg #[.string s,.slice ao k ca]
      | 7=>(false)=false→v=.int .i64 n
      | 8=>(false)=false→v=.int .i64 E
      | 9=>(false)=false→v=.agg #[.string s,.slice ao k ca]
      | 10=>(false)=false→v=.int .i64 n
      | 11=>(false)=false→v=.int .i64 E
      | 12=>(false)=false→v=.bool false
      | _=>v=.bool (false || false)) rfl rfl (by kernel_rfl) (by kernel_rfl) (by kernel_rfl) (by kernel_rfl) ?st ?_ ?_
     case st=>
      intro i9 v u1 u2 h hb
      match i9 with
      | 0 | 1 | 2 | 3 | 4 | 5 | 6 | 7 | 8 | 9 | 10 | 11 | 12 | 13 | _+14=>exact h
     refine zSc (zSo rfl ?s0) (zSc (zSo rfl ?s1) (zSc (zSo rfl ?s2) (zSc (zSo rfl ?s3) (zSc (zSo rfl ?s4) (zSc (zSo rfl ?s5) (zSc (zSo rfl ?s6) (zSc (zSo rfl ?s7) (zSc (zSo rfl ?s8) (zSc (zSo rfl ?s9) (zSc (zSo rfl ?s10) (zSc (zSo rfl ?s11) (zSc (zSo rfl ?s12) (zSc (zSo rfl ?s13) zSn)))))))))))))
     case s0=>
      intro xs w' hb hT K9 hK9
      clear hT
      simp only[zFp,zAp,zLa,zLb,zLc,Nat.reduceAdd,zNz] at hK9⊢
      have hw:=Flow.hwD HWR.out hb
      go_simp
      exact hK9 _ _ (ZR _ _) rfl
     case s1=>
      intro xs w' hb hT K9 hK9
      have h0:(xs 0)=.slice (some ⟨bl,0,none⟩) 401 401:=hT 0 (by kernel_rfl)
      clear hT
      simp only[zFp,zAp,zLa,zLb,zLc,Nat.reduceAdd,zNz] at hK9⊢
      have hw:=Flow.hwD HWR.out hb
      (try simp only[h0] at hK9)
      have hcv:(convert 22 24 (.slice (some ⟨bl,0,none⟩) 401 401)).run Tryz.prog w'=.ok (.string SL) w':=by
       rw[HSL.out]
       obtain ⟨cur,h1,h2,h3⟩:=HO5.out
       exact ones_string ⟨cur,(hw.block bl (ZL h1)).trans h1,h2,h3⟩
      go_simp
      exact hK9 _ _ (ZR _ _) rfl
     case s2=>
      intro xs w' hb hT K9 hK9
      have h1:(xs 1)=.string SL:=hT 1 (by kernel_rfl)
      clear hT
      simp only[zFp,zAp,zLa,zLb,zLc,Nat.reduceAdd,zNz] at hK9⊢
      have hw:=Flow.hwD HWR.out hb
      (try simp only[h1] at hK9)
      go_simp
      exact hK9 _ _ (ZR _ _) rfl
     case s3=>
      intro xs w' hb hT K9 hK9
      have h2:(xs 2)=.agg #[.string SL,.slice none 0 0]:=hT 2 (by kernel_rfl)
      clear hT
      simp only[zFp,zAp,zLa,zLb,zLc,Nat.reduceAdd,zNz] at hK9⊢
      have hw:=Flow.hwD HWR.out hb
      (try simp only[h2] at hK9)
      have hcf:=mCheckForm_any (c:=onesL) (L:=[]) (HGR.out.below hw) (v:=.agg #[.string SL,.slice none 0 0]) ⟨_,by rw[HSL.out],termsZ_none w'⟩ (by unfold onesL; rw[List.length_replicate]; omega) (fun p hp=>by simp at hp) 1
      rw[long_err] at hcf
      go_simp
      go_at_call 17
      refine hcf.mono ?_
      rintro e w3 ⟨rfl,hb3⟩
      exact hK9 _ _ hb3 rfl
     case s4=>
      intro xs w' hb hT K9 hK9
      have h3:(xs 3)=.int .i64 5:=hT 3 (by kernel_rfl)
      clear hT
      simp only[zFp,zAp,zLa,zLb,zLc,Nat.reduceAdd,zNz] at hK9⊢
      have hw:=Flow.hwD HWR.out hb
      (try simp only[h3] at hK9)
      go_simp
      exact hK9 _ _ (ZR _ _) rfl
     case s5=>
      intro xs w' hb hT K9 hK9
      have h4:(xs 4)=.bool false:=hT 4 (by kernel_rfl)
      clear hT
      simp only[zFp,zAp,zLa,zLb,zLc,Nat.reduceAdd,zNz] at hK9⊢
      have hw:=Flow.hwD HWR.out hb
      (try simp only[h4] at hK9)
      go_simp
      exact hK9 _ _ (ZR _ _) rfl
     case s6 | s9=>
      intro xs w' hb hT K9 hK9
      have h5:(xs 5)=.bool false:=hT 5 (by kernel_rfl)
      clear hT
      simp only[zFp,zAp,zLa,zLb,zLc,Nat.reduceAdd,zNz] at hK9⊢
      have hw:=Flow.hwD HWR.out hb
      have hg:(false)=false:=rfl
      have kb:=(hw.block bf (ZL HKR.out.1)).trans HKR.out.1
      have y0:=ZI kb 0
      have y1:=ZI kb 1
      clear kb
      simp at y0 y1
      (try simp only[h5] at hK9)
      go_simp
      exact hK9 _ _ (ZR _ _) (fun _=>rfl)
     case s7 | s10=>
      intro xs w' hb hT K9 hK9
      have h5:(xs 5)=.bool false:=hT 5 (by kernel_rfl)
      clear hT
      simp only[zFp,zAp,zLa,zLb,zLc,Nat.reduceAdd,zNz] at hK9⊢
      have hw:=Flow.hwD HWR.out hb
      have hg:(false)=false:=rfl
      (try simp only[h5] at hK9)
      go_simp
      exact hK9 _ _ (ZR _ _) (fun _=>rfl)
     case s8=>
      intro xs w' hb hT K9 hK9
      have h5:(xs 5)=.bool false:=hT 5 (by kernel_rfl)
      have h6:(false)=false→(xs 6)=.agg #[.string s,.slice ao k ca]:=hT 6 (by kernel_rfl)
      have h7:(false)=false→(xs 7)=.int .i64 n:=hT 7 (by kernel_rfl)
      clear hT
      simp only[zFp,zAp,zLa,zLb,zLc,Nat.reduceAdd,zNz] at hK9⊢
      have hw:=Flow.hwD HWR.out hb
      have hg:(false)=false:=rfl
      replace h6:=h6 hg
      replace h7:=h7 hg
      (try simp only[h5] at hK9)
      (try simp only[h6] at hK9)
      (try simp only[h7] at hK9)
      go_simp
      go_at_call 17
      refine (mCheckForm_any (HGR.out.below hw) (HFR.out.1.below hw) (few_len HC1.out).1 (few_len HC1.out).2 n).mono ?_
      rintro e w3 ⟨rfl,hb3⟩
      exact hK9 _ _ hb3 (fun _=>(by rw[HEE.out]))
     case s11=>
      intro xs w' hb hT K9 hK9
      have h5:(xs 5)=.bool false:=hT 5 (by kernel_rfl)
      have h9:(false)=false→(xs 9)=.agg #[.string s,.slice ao k ca]:=hT 9 (by kernel_rfl)
      have h10:(false)=false→(xs 10)=.int .i64 n:=hT 10 (by kernel_rfl)
      clear hT
      simp only[zFp,zAp,zLa,zLb,zLc,Nat.reduceAdd,zNz] at hK9⊢
      have hw:=Flow.hwD HWR.out hb
      have hg:(false)=false:=rfl
      replace h9:=h9 hg
      replace h10:=h10 hg
      (try simp only[h5] at hK9)
      (try simp only[h9] at hK9)
      (try simp only[h10] at hK9)
      go_simp
      go_at_call 18
      refine (pcheckForm_any (HGR.out.below hw) (HFR.out.1.below hw) (few_len HC1.out).1 (few_len HC1.out).2 n).mono ?_
      rintro e w3 ⟨rfl,hb3⟩
      exact hK9 _ _ hb3 (fun _=>(by rw[HEE.out]))
     case s12=>
      intro xs w' hb hT K9 hK9
      have h5:(xs 5)=.bool false:=hT 5 (by kernel_rfl)
      have h8:(false)=false→(xs 8)=.int .i64 E:=hT 8 (by kernel_rfl)
      have h11:(false)=false→(xs 11)=.int .i64 E:=hT 11 (by kernel_rfl)
      clear hT
      simp only[zFp,zAp,zLa,zLb,zLc,Nat.reduceAdd,zNz] at hK9⊢
      have hw:=Flow.hwD HWR.out hb
      have hg:(false)=false:=rfl
      replace h8:=h8 hg
      replace h11:=h11 hg
      (try simp only[h5] at hK9)
      (try simp only[h8] at hK9)
      (try simp only[h11] at hK9)
      go_simp
      exact hK9 _ _ (ZR _ _) (fun _=>rfl)
     case s13=>
      intro xs w' hb hT K9 hK9
      have h5:(xs 5)=.bool false:=hT 5 (by kernel_rfl)
      have h12:(false)=false→(xs 12)=.bool false:=hT 12 (by kernel_rfl)
      clear hT
      simp only[zFp,zAp,zLa,zLb,zLc,Nat.reduceAdd,zNz] at hK9⊢
      have hw:=Flow.hwD HWR.out hb
      have hg:(false)=false:=rfl
      replace h12:=h12 hg
      (try simp only[h5] at hK9)
      (try simp only[h12] at hK9)
      go_simp
      exact hK9 _ _ (ZR _ _) (by simp)
     intro xs w' hb hT
     have hw:=Flow.hwD HWR.out hb
     have h13:(xs 13)=.bool (false || false):=hT 13 (by rfl)
     clear hT
     simp only[zFp,zAp,zLa,zLb,zLc,Nat.reduceAdd,zNz,FlowR.restL,FlowR.orM,Bool.false_or]
     have e46:xs 13=.bool false:=by simpa using h13
     simp only[e46]
     have HB6:=ZH (HB5.out.trans (hw.mono HB5.out.size))
     have HF6:=ZH (ZN (HFR.out.1.below hw) (HFR.out.2.below hw))
     have HG6:=ZH (HGR.out.below hw)
     obtain ⟨w6,hw6⟩:∃x,x=w':=⟨_,rfl⟩
     rw[←hw6] at HB6 HF6 HG6⊢
     clear h13 e46 hw hb hw6 HKR HFR HGR HB5 HO5 HWR HSL HEE
     -- the errors over 64 dimensions
     obtain ⟨E1,hE1⟩:∃x,x=formErr c L 64:=⟨_,rfl⟩
     obtain ⟨E2,hE2⟩:∃x,x=formErr d M 64:=⟨_,rfl⟩
     have hcf1:=pcheckForm_any HG6.out HF6.out.1 (few_len HC1.out).1 (few_len HC1.out).2 64
     rw[←hE1] at hcf1
     have HCF1:=ZH hcf1
     have hcf2:=fun (W:World) (hW:Below w6.heap.size w6 W)=>pcheckForm_any (HG6.out.below hW) (HF6.out.2.below hW) (few_len HC2.out).1 (few_len HC2.out).2 64
     rw[←hE2] at hcf2
     have HCF2:=ZH hcf2
     have HE:=ZH (ZN hE1 hE2)
     obtain ⟨x0,x1⟩:=cells2 HB6.out HK.out.1
     clear hcf1 hcf2 hE1 hE2
     go_wp2_with fail
     refine HCF1.out.mono ?_
     rintro e w7 ⟨rfl,hb7⟩
     have HB7:=ZH hb7
     clear hb7 x0 x1 HCF1
     by_cases h1:E1=0
     case neg=>
      have f1:(E1==0)=false:=by simpa using h1
      have f2:(E1 != 0)=true:=by simpa using h1
      have HX:=ZH (HAL.out.trans ((HB6.out.trans (HB7.out.mono HB6.out.size)).mono HAL.out.size))
      clear h1
      go_wp2_with fail
      go_ret
      exact ⟨rfl,HX.out⟩
     have f1:(E1==0)=true:=by rw[h1]; rfl
     have f2:(E1 != 0)=false:=by rw[h1]; rfl
     have HE1:=ZH (HE.out.1.symm.trans h1)
     obtain ⟨y0,y1⟩:=cells2 (HB6.out.trans (HB7.out.mono HB6.out.size)) HK.out.2
     have HCF3:=ZH (HCF2.out w7 HB7.out)
     clear h1 HCF2
     go_wp2_with fail
     refine HCF3.out.mono ?_
     rintro e w8 ⟨rfl,hb8⟩
     have HB8:=ZH (HB7.out.trans (hb8.mono HB7.out.size))
     clear hb8 y0 y1 HCF3 HB7 f1 f2
     by_cases h2:E2=0
     case neg=>
      have f1:(E2==0)=false:=by simpa using h2
      have f2:(E2 != 0)=true:=by simpa using h2
      have HX:=ZH (HAL.out.trans ((HB6.out.trans (HB8.out.mono HB6.out.size)).mono HAL.out.size))
      clear h2
      go_wp2_with fail
      go_ret
      exact ⟨rfl,HX.out⟩
     have f1:(E2==0)=true:=by rw[h2]; rfl
     have f2:(E2 != 0)=false:=by rw[h2]; rfl
     have HE2:=ZH (HE.out.2.symm.trans h2)
     have HB9:=ZH (HB6.out.trans (HB8.out.mono HB6.out.size))
     obtain ⟨N,hN⟩:=form_fine (HF6.out.1.below HB8.out) HE1.out
     obtain ⟨Q,hQ⟩:=form_fine (HF6.out.2.below HB8.out) HE2.out
     have HN:=ZH hN
     have HQ:=ZH hQ
     have HG9:=ZH (HG6.out.below HB8.out)
     obtain ⟨y0,y1⟩:=cells2 HB9.out HK.out.2
     have hpr:=prat_any t (by rw[HS.out.2]; show d.length≤_; have:=hQ.2.2.1; omega) HG9.out (by rw[HS.out.2]; exact hQ.2.2.1.2.1)
     rw[show t.data.toList=d by rw[HS.out.2]] at hpr
     have HPR:=ZH hpr
     clear h2 hN hQ hpr HE1 HE2 HE
     go_wp2_with fail
     refine HPR.out.mono ?_
     rintro e w10 ⟨v10,rfl,hr10,hb10⟩
     obtain ⟨p1,g1,i1,j1,p2,g2,i2,j2,rfl⟩:=rt_shape hr10
     have HB10:=ZH hb10
     have HR10:=ZH hr10
     clear hb10 hr10 y0 y1 HPR f1 f2
     go_upto_region 13 with fail
     obtain ⟨w11,br,hw11,hbr,hl11,k11⟩:=new_box w10 #[.bool p1,.slice g1 i1 j1,.bool p2,.slice g2 i2 j2] 47
     rw[←hw11,←hbr]
     have h811:=HB10.out.trans (hl11.mono HB10.out.size)
     have HB11:=ZH (HB9.out.trans (h811.mono HB9.out.size))
     have HK11:=ZH (ZN ((HB11.out.block bf (ZL HK.out.1)).trans HK.out.1) (ZN ((HB11.out.block bg (ZL HK.out.2)).trans HK.out.2) k11))
     have HF11:=ZH (ZN (HN.out.1.below h811) (HQ.out.1.below h811))
     have HG11:=ZH (HG9.out.below h811)
     have HR11:=ZH (HR10.out.below hl11)
     have HW11:=ZH (ZR w11.heap.size w11)
     have HNL:=ZH (show d.length+2≤402 from by have:=HQ.out.2.2.1; omega)
     obtain ⟨NA,hNA⟩:∃X,X=numText (readVal c+readVal d):=⟨_,rfl⟩
     obtain ⟨ZA,hZA⟩:∃X,X=zTerms (sumTerms (tmap (sumF N Q 64)) 64):=⟨_,rfl⟩
     obtain ⟨NS,hNS⟩:∃X,X=numText (readVal c*readVal d):=⟨_,rfl⟩
     obtain ⟨ZS,hZS⟩:∃X,X=zTerms (sumTerms (tmap (mulF N (readVal d) 64)) 64):=⟨_,rfl⟩
     have HX:=ZH (ZN hNA (ZN hZA (ZN hNS hZS)))
     clear hw11 hbr hl11 k11 h811 HB10 HR10 hNA hZA hNS hZS
     refine FlowR.wp_region_sel (fun a b=>Below a.heap.size a b) (fun a=>ZR _ a) (fun _ _ _ h k=>h.trans (k.mono h.size)) [0,1,2,3,4,5,6,7,8,9,10,11,12,13,14,15,16,17,18,19] [false,false,false,false,false,false,false,false,false,false,false,false,false,false,false,false,false,false,false,false,false] [true,true,true,true,true,true,true,true,true,true,true,true,true,true,true,true,true,true,true,true,false] (fun i9 v w'=>match i9 with
      | 0=>v=.agg #[.string s,.slice ao k ca]
      | 1=>v=.agg #[.string t,.slice ao2 m ca2]
      | 2=>FormZ w' v NA ZA
      | 3=>ExIn w' (Ex.mk 0 NA ZA [] []) v
      | 4=>v=.agg #[.string s,.slice ao k ca]
      | 5=>v=.agg #[.string t,.slice ao2 m ca2]
      | 6=>FormZ w' v NA ZA
      | 7=>ExIn w' (Ex.mk 0 NA ZA [] []) v
      | 8=>v=.bool true
      | 9=>v=.bool true
      | 10=>(true)=true→v=.agg #[.string s,.slice ao k ca]
      | 11=>(true)=true→v=.agg #[.bool p1,.slice g1 i1 j1,.bool p2,.slice g2 i2 j2]
      | 12=>(true)=true→FormZ w' v NS ZS
      | 13=>(true)=true→ExIn w' (Ex.mk 0 NS ZS [] []) v
      | 14=>(true)=true→v=.agg #[.string s,.slice ao k ca]
      | 15=>(true)=true→v=.agg #[.bool p1,.slice g1 i1 j1,.bool p2,.slice g2 i2 j2]
      | 16=>(true)=true→FormZ w' v NS ZS
      | 17=>(true)=true→ExIn w' (Ex.mk 0 NS ZS [] []) v
      | 18=>(true)=true→v=.bool true
      | _=>v=.bool (true&&true)) rfl rfl (by kernel_rfl) (by kernel_rfl) (by kernel_rfl) (by kernel_rfl) ?st ?_ ?_
     case st=>
      intro i9 v u1 u2 h hb
      match i9 with
      | 0 | 1 | 4 | 5 | 8 | 9 | 10 | 11 | 14 | 15 | 18 | 19 | _+20=>exact h
      | 2 | 6=>exact (show FormZ u1 v NA ZA from h).below hb
      | 3 | 7=>exact (show ExIn u1 (Ex.mk 0 NA ZA [] []) v from h).below hb
      | 12 | 16=>exact fun hq=>((show (true)=true→FormZ u1 v NS ZS from h) hq).below hb
      | 13 | 17=>exact fun hq=>((show (true)=true→ExIn u1 (Ex.mk 0 NS ZS [] []) v from h) hq).below hb
     refine zSc (zSo rfl ?s0) (zSc (zSo rfl ?s1) (zSc (zSo rfl ?s2) (zSc (zSo rfl ?s3) (zSc (zSo rfl ?s4) (zSc (zSo rfl ?s5) (zSc (zSo rfl ?s6) (zSc (zSo rfl ?s7) (zSc (zSo rfl ?s8) (zSc (zSo rfl ?s9) (zSc (zSo rfl ?s10) (zSc (zSo rfl ?s11) (zSc (zSo rfl ?s12) (zSc (zSo rfl ?s13) (zSc (zSo rfl ?s14) (zSc (zSo rfl ?s15) (zSc (zSo rfl ?s16) (zSc (zSo rfl ?s17) (zSc (zSo rfl ?s18) (zSc (zSo rfl ?s19) zSn)))))))))))))))))))
     case s0 | s4=>
      intro xs w' hb hT K9 hK9
      clear hT
      simp only[zFp,zAp,zLa,zLb,zLc,Nat.reduceAdd,zNz] at hK9⊢
      have hw:=Flow.hwD HW11.out hb
      have kb:=(hw.block bf (ZL HK11.out.1)).trans HK11.out.1
      have y0:=ZI kb 0
      have y1:=ZI kb 1
      clear kb
      simp at y0 y1
      go_simp
      exact hK9 _ _ (ZR _ _) rfl
     case s1 | s5=>
      intro xs w' hb hT K9 hK9
      clear hT
      simp only[zFp,zAp,zLa,zLb,zLc,Nat.reduceAdd,zNz] at hK9⊢
      have hw:=Flow.hwD HW11.out hb
      have kb:=(hw.block bg (ZL HK11.out.2.1)).trans HK11.out.2.1
      have y0:=ZI kb 0
      have y1:=ZI kb 1
      clear kb
      simp at y0 y1
      go_simp
      exact hK9 _ _ (ZR _ _) rfl
     case s2=>
      intro xs w' hb hT K9 hK9
      have h0:(xs 0)=.agg #[.string s,.slice ao k ca]:=hT 0 (by kernel_rfl)
      have h1:(xs 1)=.agg #[.string t,.slice ao2 m ca2]:=hT 1 (by kernel_rfl)
      clear hT
      simp only[zFp,zAp,zLa,zLb,zLc,Nat.reduceAdd,zNz] at hK9⊢
      have hw:=Flow.hwD HW11.out hb
      (try simp only[h0] at hK9)
      (try simp only[h1] at hK9)
      have hpf:=mAdd_any (N:=64) (S:=400) (HG11.out.below hw) (HF11.out.1.below hw) (HF11.out.2.below hw) (by have:=HN.out.2.1; omega) (by have:=HQ.out.2.1; omega) (by omega) (by omega) HN.out.2.2.1.1 HN.out.2.2.1.2.2 HQ.out.2.2.1.1 HQ.out.2.2.1.2.2 (fun p hp=>(List.mem_append.1 hp).elim (HN.out.2.2.2.2.1 p) (HQ.out.2.2.2.2.1 p)) (by have h1:=HN.out.2.1; have h2:=HQ.out.2.1; have:=Nat.mul_le_mul_right 403 (show N.length+Q.length+1≤129 by omega); omega)
      rw[add_model HN.out.2.2.2.1 HQ.out.2.2.2.1] at hpf
      go_simp
      go_at_call 20
      refine hpf.mono ?_
      rintro e w3 ⟨v3,rfl,hi3,hb3⟩
      exact hK9 _ _ hb3 (by rw[HX.out.1,HX.out.2.1]; exact hi3.z)
     case s3=>
      intro xs w' hb hT K9 hK9
      have h2:FormZ w' (xs 2) NA ZA:=hT 2 (by kernel_rfl)
      clear hT
      simp only[zFp,zAp,zLa,zLb,zLc,Nat.reduceAdd,zNz] at hK9⊢
      have hw:=Flow.hwD HW11.out hb
      obtain ⟨tv9,e9,hz9⟩:=h2
      obtain ⟨ta9,tc9,rfl,-⟩:=id hz9
      simp only[e9] at hK9
      go_simp
      refine hK9 _ _ (ZR _ _) ?_
      exact ex_form hz9
     case s6=>
      intro xs w' hb hT K9 hK9
      have h4:(xs 4)=.agg #[.string s,.slice ao k ca]:=hT 4 (by kernel_rfl)
      have h5:(xs 5)=.agg #[.string t,.slice ao2 m ca2]:=hT 5 (by kernel_rfl)
      clear hT
      simp only[zFp,zAp,zLa,zLb,zLc,Nat.reduceAdd,zNz] at hK9⊢
      have hw:=Flow.hwD HW11.out hb
      (try simp only[h4] at hK9)
      (try simp only[h5] at hK9)
      have hpf:=padd_any (HG11.out.below hw) (HF11.out.1.below hw) (HF11.out.2.below hw) (by have:=HN.out.2.1; omega) (by have:=HQ.out.2.1; omega) (S:=400) (by omega) HN.out.2.2.1.1 HN.out.2.2.1.2.1 HQ.out.2.2.1.1 HQ.out.2.2.1.2.1 HN.out.2.2.2.2.2 HQ.out.2.2.2.2.2
      go_simp
      go_at_call 21
      refine hpf.mono ?_
      rintro e w3 ⟨v3,rfl,hi3,hb3⟩
      exact hK9 _ _ hb3 (by rw[HX.out.1,HX.out.2.1]; exact hi3.z)
     case s7=>
      intro xs w' hb hT K9 hK9
      have h6:FormZ w' (xs 6) NA ZA:=hT 6 (by kernel_rfl)
      clear hT
      simp only[zFp,zAp,zLa,zLb,zLc,Nat.reduceAdd,zNz] at hK9⊢
      have hw:=Flow.hwD HW11.out hb
      obtain ⟨tv9,e9,hz9⟩:=h6
      obtain ⟨ta9,tc9,rfl,-⟩:=id hz9
      simp only[e9] at hK9
      go_simp
      refine hK9 _ _ (ZR _ _) ?_
      exact ex_form hz9
     case s8=>
      intro xs w' hb hT K9 hK9
      have h3:ExIn w' (Ex.mk 0 NA ZA [] []) (xs 3):=hT 3 (by kernel_rfl)
      have h7:ExIn w' (Ex.mk 0 NA ZA [] []) (xs 7):=hT 7 (by kernel_rfl)
      clear hT
      simp only[zFp,zAp,zLa,zLb,zLc,Nat.reduceAdd,zNz] at hK9⊢
      have hw:=Flow.hwD HW11.out hb
      have hpf:=psame_any 1 (Ex.mk 0 NA ZA [] []) (Ex.mk 0 NA ZA [] []) (by rw[depE,depL]; omega) w' _ _ h3 h7
      rw[(sameE_iff (Ex.mk 0 NA ZA [] []) (Ex.mk 0 NA ZA [] [])).2 rfl] at hpf
      go_simp
      go_at_call 11
      refine hpf.mono ?_
      rintro e w3 ⟨rfl,hb3⟩
      exact hK9 _ _ hb3 rfl
     case s9=>
      intro xs w' hb hT K9 hK9
      have h8:(xs 8)=.bool true:=hT 8 (by kernel_rfl)
      clear hT
      simp only[zFp,zAp,zLa,zLb,zLc,Nat.reduceAdd,zNz] at hK9⊢
      have hw:=Flow.hwD HW11.out hb
      (try simp only[h8] at hK9)
      go_simp
      exact hK9 _ _ (ZR _ _) rfl
     case s10 | s14=>
      intro xs w' hb hT K9 hK9
      have h9:(xs 9)=.bool true:=hT 9 (by kernel_rfl)
      clear hT
      simp only[zFp,zAp,zLa,zLb,zLc,Nat.reduceAdd,zNz] at hK9⊢
      have hw:=Flow.hwD HW11.out hb
      have hg:(true)=true:=rfl
      have kb:=(hw.block bf (ZL HK11.out.1)).trans HK11.out.1
      have y0:=ZI kb 0
      have y1:=ZI kb 1
      clear kb
      simp at y0 y1
      (try simp only[h9] at hK9)
      go_simp
      exact hK9 _ _ (ZR _ _) (fun _=>rfl)
     case s11 | s15=>
      intro xs w' hb hT K9 hK9
      have h9:(xs 9)=.bool true:=hT 9 (by kernel_rfl)
      clear hT
      simp only[zFp,zAp,zLa,zLb,zLc,Nat.reduceAdd,zNz] at hK9⊢
      have hw:=Flow.hwD HW11.out hb
      have hg:(true)=true:=rfl
      obtain ⟨y0,y1,y2,y3⟩:=cells4 hw HK11.out.2.2
      (try simp only[h9] at hK9)
      go_simp
      exact hK9 _ _ (ZR _ _) (fun _=>rfl)
     case s12=>
      intro xs w' hb hT K9 hK9
      have h9:(xs 9)=.bool true:=hT 9 (by kernel_rfl)
      have h10:(true)=true→(xs 10)=.agg #[.string s,.slice ao k ca]:=hT 10 (by kernel_rfl)
      have h11:(true)=true→(xs 11)=.agg #[.bool p1,.slice g1 i1 j1,.bool p2,.slice g2 i2 j2]:=hT 11 (by kernel_rfl)
      clear hT
      simp only[zFp,zAp,zLa,zLb,zLc,Nat.reduceAdd,zNz] at hK9⊢
      have hw:=Flow.hwD HW11.out hb
      have hg:(true)=true:=rfl
      replace h10:=h10 hg
      replace h11:=h11 hg
      (try simp only[h9] at hK9)
      (try simp only[h10] at hK9)
      (try simp only[h11] at hK9)
      have hpf:=mScale_any (N:=64) (S:=400) (HG11.out.below hw) (HF11.out.1.below hw) (by have:=HN.out.2.1; omega) ((HR11.out.below hw).more HNL.out) (by omega) (by omega) (by omega) HN.out.2.2.1.1 HN.out.2.2.1.2.2 HN.out.2.2.2.2.1 (by omega)
      rw[scale_model HN.out.2.2.2.1] at hpf
      go_simp
      go_at_call 22
      refine hpf.mono ?_
      rintro e w3 ⟨v3,rfl,hi3,hb3⟩
      exact hK9 _ _ hb3 (fun _=>by rw[HX.out.2.2.1,HX.out.2.2.2]; exact hi3.z)
     case s13=>
      intro xs w' hb hT K9 hK9
      have h9:(xs 9)=.bool true:=hT 9 (by kernel_rfl)
      have h12:(true)=true→FormZ w' (xs 12) NS ZS:=hT 12 (by kernel_rfl)
      clear hT
      simp only[zFp,zAp,zLa,zLb,zLc,Nat.reduceAdd,zNz] at hK9⊢
      have hw:=Flow.hwD HW11.out hb
      have hg:(true)=true:=rfl
      replace h12:=h12 hg
      (try simp only[h9] at hK9)
      obtain ⟨tv9,e9,hz9⟩:=h12
      obtain ⟨ta9,tc9,rfl,-⟩:=id hz9
      simp only[e9] at hK9
      go_simp
      refine hK9 _ _ (ZR _ _) ?_
      exact fun _=>ex_form hz9
     case s16=>
      intro xs w' hb hT K9 hK9
      have h9:(xs 9)=.bool true:=hT 9 (by kernel_rfl)
      have h14:(true)=true→(xs 14)=.agg #[.string s,.slice ao k ca]:=hT 14 (by kernel_rfl)
      have h15:(true)=true→(xs 15)=.agg #[.bool p1,.slice g1 i1 j1,.bool p2,.slice g2 i2 j2]:=hT 15 (by kernel_rfl)
      clear hT
      simp only[zFp,zAp,zLa,zLb,zLc,Nat.reduceAdd,zNz] at hK9⊢
      have hw:=Flow.hwD HW11.out hb
      have hg:(true)=true:=rfl
      replace h14:=h14 hg
      replace h15:=h15 hg
      (try simp only[h9] at hK9)
      (try simp only[h14] at hK9)
      (try simp only[h15] at hK9)
      have hpf:=pscale_any (HG11.out.below hw) (HF11.out.1.below hw) ((HR11.out.below hw).more HNL.out) (by omega) (by have:=HN.out.2.1; omega) (S:=400) (by omega) HN.out.2.2.1.1 HN.out.2.2.1.2.1 HN.out.2.2.2.2.2
      go_simp
      go_at_call 23
      refine hpf.mono ?_
      rintro e w3 ⟨v3,rfl,hi3,hb3⟩
      exact hK9 _ _ hb3 (fun _=>by rw[HX.out.2.2.1,HX.out.2.2.2]; exact hi3.z)
     case s17=>
      intro xs w' hb hT K9 hK9
      have h9:(xs 9)=.bool true:=hT 9 (by kernel_rfl)
      have h16:(true)=true→FormZ w' (xs 16) NS ZS:=hT 16 (by kernel_rfl)
      clear hT
      simp only[zFp,zAp,zLa,zLb,zLc,Nat.reduceAdd,zNz] at hK9⊢
      have hw:=Flow.hwD HW11.out hb
      have hg:(true)=true:=rfl
      replace h16:=h16 hg
      (try simp only[h9] at hK9)
      obtain ⟨tv9,e9,hz9⟩:=h16
      obtain ⟨ta9,tc9,rfl,-⟩:=id hz9
      simp only[e9] at hK9
      go_simp
      refine hK9 _ _ (ZR _ _) ?_
      exact fun _=>ex_form hz9
     case s18=>
      intro xs w' hb hT K9 hK9
      have h9:(xs 9)=.bool true:=hT 9 (by kernel_rfl)
      have h13:(true)=true→ExIn w' (Ex.mk 0 NS ZS [] []) (xs 13):=hT 13 (by kernel_rfl)
      have h17:(true)=true→ExIn w' (Ex.mk 0 NS ZS [] []) (xs 17):=hT 17 (by kernel_rfl)
      clear hT
      simp only[zFp,zAp,zLa,zLb,zLc,Nat.reduceAdd,zNz] at hK9⊢
      have hw:=Flow.hwD HW11.out hb
      have hg:(true)=true:=rfl
      replace h13:=h13 hg
      replace h17:=h17 hg
      (try simp only[h9] at hK9)
      have hpf:=psame_any 1 (Ex.mk 0 NS ZS [] []) (Ex.mk 0 NS ZS [] []) (by rw[depE,depL]; omega) w' _ _ h13 h17
      rw[(sameE_iff (Ex.mk 0 NS ZS [] []) (Ex.mk 0 NS ZS [] [])).2 rfl] at hpf
      go_simp
      go_at_call 11
      refine hpf.mono ?_
      rintro e w3 ⟨rfl,hb3⟩
      exact hK9 _ _ hb3 (fun _=>rfl)
     case s19=>
      intro xs w' hb hT K9 hK9
      have h9:(xs 9)=.bool true:=hT 9 (by kernel_rfl)
      have h18:(true)=true→(xs 18)=.bool true:=hT 18 (by kernel_rfl)
      clear hT
      simp only[zFp,zAp,zLa,zLb,zLc,Nat.reduceAdd,zNz] at hK9⊢
      have hw:=Flow.hwD HW11.out hb
      have hg:(true)=true:=rfl
      replace h18:=h18 hg
      (try simp only[h9] at hK9)
      (try simp only[h18] at hK9)
      go_simp
      exact hK9 _ _ (ZR _ _) (by simp)
     intro xs w' hb hT
     have hw:=Flow.hwD HW11.out hb
     have h19:(xs 19)=.bool (true&&true):=hT 19 (by rfl)
     clear hT
     simp only[zFp,zAp,zLa,zLb,zLc,Nat.reduceAdd,zNz,FlowR.restL,FlowR.orM,Bool.false_or]
     have e77:xs 19=.bool true:=by simpa using h19
     simp only[e77]
     have HX9:=ZH (HAL.out.trans ((HB11.out.trans (hw.mono HB11.out.size)).mono HAL.out.size))
     clear h19 e77 hw hb
     go_wp2_with fail
     go_ret
     exact ⟨rfl,HX9.out⟩
end Go.Proofs.YtdcaaehapdhckaaGreatDoor

