/- dimension.Linear, of an expression that is linear. -/
import Derived.Test.YtdcaaehapdhckaaGreatDoorK2
import Derived.Test.YtdcaaehapdhckaaGreatDoorK1
set_option linter.unusedSimpArgs false
set_option linter.unusedVariables false
set_option maxRecDepth 100000
namespace Go.Proofs.YtdcaaehapdhckaaGreatDoor
open List renaming setIfInBounds_toArray → zLa, set_cons_zero → zLb, set_cons_succ → zLc
open FlowR renaming putSel → zFp
open Act renaming put → zAp
open Nat renaming zero_add → zNz
open Flow.Steps renaming cons → zSc, nil → zSn
open FlowR.Step renaming of → zSo
open Go.RowKit Go.Num Go.Flow
open Go.Gx (LF GEx Over linOf dep)
set_option maxHeartbeats 8000000
set_option linter.unusedVariables false

theorem map_more {w:World} {b n K:Nat} {m:Int→Option Rat} (h:RMapIn w b n K m) {w':World} (hb:Below w.heap.size w w'):RMapIn w' b n K m:=h.below hb
theorem num_zero : numText 0=nilTxt:=by kernel_rfl
theorem two_sets {w:World} {b:Nat} {x y:Value} {t:TypeId} (h:w.heap[b]?=some (.cells #[x,y] t (0,0))) (u v:Value):((w.setCell ⟨b,0,none⟩ u).setCell ⟨b,1,none⟩ v).heap[b]?=some (.cells #[u,v] t (0,0)):=by
 simp[World.setCell,Array.getElem?_modify,h]
theorem off_sets {w:World} {b c:Nat} (h:c≠b) (u v:Value):((w.setCell ⟨b,0,none⟩ u).setCell ⟨b,1,none⟩ v).heap[c]?=w.heap[c]?:=(Below.heap_setCell (w.setCell ⟨b,0,none⟩ u) ⟨b,1,none⟩ v c h).trans (Below.heap_setCell w ⟨b,0,none⟩ u c h)
def LinPost (w:World) (f:LF) (e:Ending) (w':World):Prop:=∃fv,e=.returned (.tuple #[fv,.bool true])∧FormIn w' w.heap.size fv (numText f.c) (formTexts f)∧Below w.heap.size w w'
theorem FormIn.shape {w:World} {B:Nat} {v:Value} {c:List UInt8} {l:List (Nat×List UInt8)} (h:FormIn w B v c l):∃s a n cc,v=.agg #[.string s,.slice a n cc]:=by
 obtain ⟨tv,e,ht⟩:=h
 obtain ⟨a,n,cc,rfl⟩:=ht.shape
 exact ⟨_,_,_,_,e⟩
theorem FormIn.sets {w:World} {B b:Nat} {v:Value} {c:List UInt8} {l:List (Nat×List UInt8)} (h:FormIn w B v c l) (hb:b<B) (u x:Value):FormIn ((w.setCell ⟨b,0,none⟩ u).setCell ⟨b,1,none⟩ x) B v c l:=by
 obtain ⟨tv,e,ht⟩:=h
 exact ⟨tv,e,(ht.set hb 0 u).set hb 1 x⟩
theorem FormIn.mono {w:World} {B B':Nat} {v:Value} {c:List UInt8} {l:List (Nat×List UInt8)} (h:FormIn w B v c l) (hb:B'≤B):FormIn w B' v c l:=by
 obtain ⟨tv,e,ht⟩:=h
 exact ⟨tv,e,World.ownsRow.mono ht hb⟩
theorem formin_off {w:World} {B b:Nat} {v:Value} {c:List UInt8} {l:List (Nat×List UInt8)} (h:FormIn w B v c l) {cs:Array Value} {t:TypeId} (hk:w.heap[b]?=some (.cells cs t (0,0))) (ht:t≠85) (u x:Value):FormIn ((w.setCell ⟨b,0,none⟩ u).setCell ⟨b,1,none⟩ x) B v c l:=by
 obtain ⟨tv,e,h2⟩:=h
 have h3:=h2.off hk ht
 exact ⟨tv,e,(h2.setNe h3 0 u).setNe h3 1 x⟩
theorem mLinear_step {n:Nat} (hn:n≤900) (x:GEx) (ih:∀j,j<(argG x).length→∀g,linOf n ((argG x).getD j (.add []))=some g→∀(w:World) (v:Value),Glob w→ExIn w (raw ((argG x).getD j (.add []))) v→Calls Tryz.prog 9 #[v] w (LinPost w g))
  (ho:Over n x) (hl:Lite x) {f:LF} (hf:linOf n x=some f) {w:World} {v:Value} (hg:Glob w) (hx:ExIn w (raw x) v):Calls Tryz.prog 9 #[v] w (LinPost w f):=by
 unfold LinPost
 obtain ⟨tv,aa,ac,rfl,htz,hax⟩:=hx.out
 rw[raw_args] at hax⊢
 rw[raws_len] at hax⊢
 obtain ⟨ta,tc,rfl,-⟩:=id htz
 obtain ⟨s0,hs0⟩:∃s:ByteArray,s=⟨(raw x).c.toArray⟩:=⟨_,rfl⟩
 obtain ⟨s1,hs1⟩:∃s:ByteArray,s=⟨(raw x).f.toArray⟩:=⟨_,rfl⟩
 obtain ⟨tn,htn⟩:∃x',x'=(raw x).t.length:=⟨_,rfl⟩
 obtain ⟨an,han⟩:∃x',x'=(argG x).length:=⟨_,rfl⟩
 obtain ⟨o,hor⟩:∃x',x'=(raw x).op:=⟨_,rfl⟩
 rw[←hs0,←hs1,←htn,←han,←hor]
 rw[←htn] at htz
 rw[←han] at hax
 have hoG:o=opG x:=by rw[hor,raw_op]
 obtain ⟨wa,bx,bc,hwa,hbx,hbc,hal,k0,k1⟩:=new_two w #[.int .i64 o,.string s0,.slice ta tn tc,.string s1,.slice aa an ac] #[.string ⟨#[]⟩,.slice none 0 0] 30 27
 have hcap:an≤ac∧ac≤9223372036854775807:=by
  obtain ⟨_,_,e,h1,h2,-⟩:=hax
  simp only[Value.slice.injEq] at e
  obtain ⟨-,-,rfl⟩:=e
  rw[raws_len,←han] at h1
  exact ⟨h1,h2⟩
 have HG:=ZH hg
 have HF:=ZH (ZN ho (ZN hl hf))
 have HTZ:=ZH htz
 have HAX:=ZH hax
 have HIH:=ZH ih
 have HAL:=ZH hal
 have HK:=ZH (ZN k0 k1)
 have HNE:=ZH (show bx≠bc∧w.heap.size≤bc∧bc<wa.heap.size∧bx<wa.heap.size from ⟨by omega,by omega,ZL k1,ZL k0⟩)
 have HN:=ZH (ZN han (ZN hs0 (ZN hs1 (ZN htn hoG))))
 have HW:=ZH (ZN hwa (ZN hbx hbc))
 have HWA:=ZH (ZR wa.heap.size wa)
 obtain ⟨x0,x1,x2,x3,x4⟩:=cells5 (ZR _ wa) k0
 clear hwa hbx hbc hal hg htz hax ih hs0 hs1 htn hx hor han hoG ho hl hf k0 k1
 by_cases hop:o=0
 ·-- a form
  subst hop
  have HFM:=ZH (show ∃g,x=.form g from by
   have:=HN.out.2.2.2.2
   cases x with
   | form g=>exact ⟨g,rfl⟩
   | _=>exact absurd this (by simp[opG]))
  obtain ⟨g,rfl⟩:=HFM.out
  clear HFM
  obtain rfl:g=f:=by have h:=HF.out.2.2; rw[linOf] at h; simpa using h
  have hfo:g.t.length=n:=by have:=HF.out.1; rwa[Over] at this
  have hlf:=lite_form HF.out.2.1
  have hfz:=fine_texts hlf hfo
  have hlen:=texts_len g
  have hc60:=(liteF_texts hlf).1
  have hs0c:s0.data.toList=numText g.c:=by rw[HN.out.2.1,raw]; rfl
  have hrd:=fun (W:World) (hgW:Glob W)=>mread_any s0 (w:=W) (by
   have h1:s0.size=(numText g.c).length:=by rw[HN.out.2.1,raw]; simp[ByteArray.size,Ex.c]
   omega) hgW (by rw[hs0c]; exact read_num_ok (by omega) (by omega))
  rw[hs0c,read_num] at hrd
  have hform:FormAt wa (.agg #[.string s0,.slice ta tn tc]) (numText g.c) (formTexts g):=by
   refine ⟨.slice ta tn tc,by rw[HN.out.2.1,raw]; rfl,TermsZ.nat (l:=formTexts g) ?_⟩
   have h:=HTZ.out.below HAL.out
   rw[raw] at h
   exact h
  have HRD:=ZH hrd
  have HFO:=ZH (ZN hform (ZN hfz (ZN hlen (ZN hfo hc60))))
  obtain ⟨SM,hSM⟩:∃l,l=formTexts g:=⟨_,rfl⟩
  obtain ⟨CT,hCT⟩:∃l,l=numText g.c:=⟨_,rfl⟩
  have hsm2:sumTerms (scaleAll (formTexts g) 1 noMap) n=SM:=by
   rw[scale_texts hfo,hSM]
   congr 1
   unfold LF.scale
   rw[Rat.mul_one]
   have:g.t.map (fun x=>x*1)=g.t:=by
    conv=>rhs; rw[←List.map_id g.t]
    exact List.map_congr_left fun r _=>Rat.mul_one r
   rw[this]
  have HSM:=ZH (ZN hSM (ZN hCT hsm2))
  have HKEYS:=ZH (scaleAll_keys (T:=formTexts g) (N:=n) (r:=1) (m:=noMap) (fun p hp=>(hfz p hp).1) (noMap_keys n))
  clear hfo hlf hfz hlen hc60 hs0c hrd hform hSM hCT hsm2
  go_enter Tryz.func9,Tryz.ntmps9
  go_upto_region 1 with fail
  rw[←HW.out.1,←HW.out.2.2,←HW.out.2.1]
  clear HW
  go_upto_region 3 with fail
  clear x0 x1 x2 x3 x4
  refine FlowR.wp_region_sel (fun a b=>Below a.heap.size a b) (fun a=>ZR _ a) (fun _ _ _ h k=>h.trans (k.mono h.size)) [0,1,2,3,4,5,6,7] [false,false,false,false,false,false,false,false,false,false] [true,true,true,true,true,true,true,true,false,false] (fun i9 v w'=>match i9 with
   | 0=>v=.pointer (some ⟨bx,1,none⟩)
   | 1=>v=.pointer (some ⟨bx,1,none⟩)
   | 2=>v=.string s0
   | 3=>RtIn w' v g.c 62
   | 4=>v=.pointer (some ⟨bx,1,none⟩)
   | 5=>v=.agg #[.string s0,.slice ta tn tc]
   | 6=>∃bm,v=.map (some bm)∧RMapIn w' bm (formTexts g).length 62 (scaleAll (formTexts g) 1 noMap)
   | _=>FormIn w' wa.heap.size v CT SM) rfl rfl (by kernel_rfl) (by kernel_rfl) (by kernel_rfl) (by kernel_rfl) ?st ?_ ?_
  case st=>
   intro i9 v u1 u2 h hb
   match i9 with
   | 0 | 1 | 2 | 4 | 5=>exact h
   | 3=>exact RtIn.below h hb
   | 6=>exact (by obtain ⟨bm,q1,q2⟩:=(show ∃bm,v=.map (some bm)∧RMapIn u1 bm (formTexts g).length 62 (scaleAll (formTexts g) 1 noMap) from h); exact ⟨bm,q1,q2.below hb⟩)
   | 7 | _+8=>exact (show FormIn u1 wa.heap.size v CT SM from h).below hb
  refine zSc (zSo rfl ?s0) (zSc (zSo rfl ?s1) (zSc (zSo rfl ?s2) (zSc (zSo rfl ?s3) (zSc (zSo rfl ?s4) (zSc (zSo rfl ?s5) (zSc (zSo rfl ?s6) (zSc (zSo rfl ?s7) zSn)))))))
  case s0 | s4=>
   intro xs w' hb hT K9 hK9
   clear hT
   simp only[zFp,zAp,zLa,zLb,zLc,Nat.reduceAdd,zNz] at hK9⊢
   have hw:=Flow.hwD HWA.out hb
   go_simp
   exact hK9 _ _ (ZR _ _) rfl
  case s1=>
   intro xs w' hb hT K9 hK9
   have h0:(xs 0)=.pointer (some ⟨bx,1,none⟩):=hT 0 (by kernel_rfl)
   clear hT
   simp only[zFp,zAp,zLa,zLb,zLc,Nat.reduceAdd,zNz] at hK9⊢
   have hw:=Flow.hwD HWA.out hb
   (try simp only[h0] at hK9)
   go_simp
   exact hK9 _ _ (ZR _ _) rfl
  case s2=>
   intro xs w' hb hT K9 hK9
   have h1:(xs 1)=.pointer (some ⟨bx,1,none⟩):=hT 1 (by kernel_rfl)
   clear hT
   simp only[zFp,zAp,zLa,zLb,zLc,Nat.reduceAdd,zNz] at hK9⊢
   have hw:=Flow.hwD HWA.out hb
   have kb:=(hw.block bx (ZL HK.out.1)).trans HK.out.1
   have y0:=ZI kb 1
   clear kb
   simp at y0
   (try simp only[h1] at hK9)
   go_simp
   exact hK9 _ _ (ZR _ _) rfl
  case s3=>
   intro xs w' hb hT K9 hK9
   have h2:(xs 2)=.string s0:=hT 2 (by kernel_rfl)
   clear hT
   simp only[zFp,zAp,zLa,zLb,zLc,Nat.reduceAdd,zNz] at hK9⊢
   have hw:=Flow.hwD HWA.out hb
   (try simp only[h2] at hK9)
   go_simp
   go_at_call 40
   refine (HRD.out w' (HG.out.below (HAL.out.trans (hw.mono HAL.out.size)))).mono ?_
   rintro e w3 ⟨v3,rfl,hi3,hb3⟩
   exact hK9 _ _ hb3 (hi3.more (by have:=HFO.out.2.2.2.2; omega))
  case s5=>
   intro xs w' hb hT K9 hK9
   have h4:(xs 4)=.pointer (some ⟨bx,1,none⟩):=hT 4 (by kernel_rfl)
   clear hT
   simp only[zFp,zAp,zLa,zLb,zLc,Nat.reduceAdd,zNz] at hK9⊢
   have hw:=Flow.hwD HWA.out hb
   (try simp only[h4] at hK9)
   have kb:=(hw.block bx (ZL HK.out.1)).trans HK.out.1
   have y1:=ZI kb 1
   have y2:=ZI kb 2
   clear kb
   simp at y1 y2
   go_simp
   exact hK9 _ _ (ZR _ _) rfl
  case s6=>
   intro xs w' hb hT K9 hK9
   have h5:(xs 5)=.agg #[.string s0,.slice ta tn tc]:=hT 5 (by kernel_rfl)
   clear hT
   simp only[zFp,zAp,zLa,zLb,zLc,Nat.reduceAdd,zNz] at hK9⊢
   have hw:=Flow.hwD HWA.out hb
   (try simp only[h5] at hK9)
   go_simp
   go_at_call 41
   refine (mfactorsOf_any (HG.out.below (HAL.out.trans (hw.mono HAL.out.size))) (HFO.out.1.below hw) (by have:=HFO.out.2.2; omega) (N:=n) (S:=60) (by omega) (by omega) (fun p hp=>HFO.out.2.1 p hp)).mono ?_
   rintro e w3 ⟨bm,rfl,-,hm3,hb3⟩
   exact hK9 _ _ hb3 ⟨bm,rfl,hm3⟩
  case s7=>
   intro xs w' hb hT K9 hK9
   have h3:RtIn w' (xs 3) g.c 62:=hT 3 (by kernel_rfl)
   have h6:∃bm,(xs 6)=.map (some bm)∧RMapIn w' bm (formTexts g).length 62 (scaleAll (formTexts g) 1 noMap):=hT 6 (by kernel_rfl)
   clear hT
   simp only[zFp,zAp,zLa,zLb,zLc,Nat.reduceAdd,zNz] at hK9⊢
   have hw:=Flow.hwD HWA.out hb
   obtain ⟨bm,e6,hm6⟩:=h6
   (try simp only[e6] at hK9)
   go_simp
   go_at_call 39
   refine (mForm_any (HG.out.below (HAL.out.trans (hw.mono HAL.out.size))) h3 (by omega) hm6 (by have:=HFO.out.2.2; omega) (by omega) (N:=n) (by omega) HKEYS.out).mono ?_
   rintro e w3 ⟨v3,rfl,hi3,hb3⟩
   exact hK9 _ _ hb3 (by rw[HSM.out.2.1,←HSM.out.2.2]; exact hi3.mono hw.size)
  intro xs w' hb hT
  have hw:=Flow.hwD HWA.out hb
  have h7:FormIn w' wa.heap.size (xs 7) CT SM:=hT 7 (by rfl)
  clear hT
  simp only[zFp,zAp,zLa,zLb,zLc,Nat.reduceAdd,zNz,FlowR.restL,FlowR.orM,Bool.false_or]
  obtain ⟨tv9,e9,ht9⟩:=h7
  obtain ⟨a9,n9,c9,rfl⟩:=ht9.shape
  simp only[e9]
  clear e9 hb
  have hkc:=(hw.block bc (ZL HK.out.2)).trans HK.out.2
  obtain ⟨z0,z1⟩:=cells2 (ZR _ w') hkc
  have f0:=ZF hkc 0
  have f1:=ZF hkc 1
  obtain ⟨CS,hCS⟩:∃s:ByteArray,s=⟨CT.toArray⟩:=⟨_,rfl⟩
  rw[←hCS]
  have hr:=(ht9.set HNE.out.2.2.1 0 (.string CS)).set HNE.out.2.2.1 1 (.slice a9 n9 c9)
  have hbb:=((HAL.out.trans (hw.mono HAL.out.size)).setCell (p:=⟨bc,0,none⟩) HNE.out.2.1 (.string CS)).setCell (p:=⟨bc,1,none⟩) HNE.out.2.1 (.slice a9 n9 c9)
  have HE:=ZH (ZN hr (ZN hbb hCS))
  clear ht9 hr hbb hkc hw hCS
  go_wp2_with fail
  refine bodyPost_ret (v:=.tuple #[.agg #[.string CS,.slice a9 n9 c9],.bool true]) (by simp[results,Tryz.results9,go_sem,z0,z1]) rfl ⟨_,rfl,⟨_,by rw[HE.out.2.2,HSM.out.2.1],?_⟩,HE.out.2.1⟩
  rw[←HSM.out.1]
  exact World.ownsRow.mono HE.out.1 HAL.out.size
 ·have e0:(o==0)=false:=by simpa using hop
  have h5:o≠5:=by
   have h1:=HF.out.2.2
   have h2:=HN.out.2.2.2.2
   intro e
   cases x with
   | abs a=>simp[linOf] at h1
   | _=>rw[e] at h2; simp[opG] at h2
  have e5:(o==5)=false:=by simpa using h5
  by_cases h2:o=2
  ·subst h2
   have HFM:=ZH (show ∃q a,x=.scale q a from by
    have:=HN.out.2.2.2.2
    cases x with
    | scale q a=>exact ⟨q,a,rfl⟩
    | _=>exact absurd this (by simp[opG]))
   obtain ⟨q,a,rfl⟩:=HFM.out
   clear HFM e5 h5
   have hqt:(numText q).length≤60:=by
    obtain ⟨h1,h2⟩:=HF.out.2.1
    have h3:=HF.out.1
    rw[Go.Gx.Den] at h1
    rw[Go.Gx.wt] at h2
    rw[Over] at h3
    obtain ⟨d,r,e,h4,-⟩:=h1
    have h5:=Go.Gx.one_wt h3
    have h6:=Go.Gx.big_ab q
    have h7:=Go.Gx.big_one q
    refine (lite_num (r:=q) ?_ ?_).1
    ·have:=Go.Gx.m2_more h4 (20-d)
     rwa[show 20-d+d=20 by omega] at this
    ·have h8:Go.Gx.big q*1≤Go.Gx.big q*Go.Gx.wt a:=Rat.mul_le_mul_of_nonneg_left h5 (by grind)
     rw[Rat.mul_one] at h8
     exact Rat.le_trans h6 (Rat.le_trans h8 h2)
   have hs1:s1.data.toList=numText q:=by rw[HN.out.2.2.1,raw]; rfl
   have hrd:=mread_any s1 (w:=wa) (by
    have h1:s1.size=(numText q).length:=by rw[HN.out.2.2.1,raw]; simp[ByteArray.size,Ex.f]
    omega) (HG.out.below HAL.out) (by rw[hs1]; exact read_num_ok (by omega) (by omega))
   rw[hs1,read_num] at hrd
   have HRD:=ZH hrd
   have HQ:=ZH hqt
   clear hqt hs1 hrd hop
   go_enter Tryz.func9,Tryz.ntmps9
   go_upto_region 1 with fail
   rw[←HW.out.1,←HW.out.2.2,←HW.out.2.1]
   clear HW
   go_wp2_with fail
   refine HRD.out.mono ?_
   rintro e w5 ⟨v5,rfl,hr5,hb5⟩
   obtain ⟨u1,i1,j1,o1,u2,i2,j2,o2,rfl⟩:=rt_shape hr5
   have HR5:=ZH (hr5.more (show (numText q).length+2≤62 by have:=HQ.out; omega))
   have HB5:=ZH hb5
   clear hr5 hb5 x0 x1 x2 x3 x4 HRD
   go_upto_region 8 with fail
   obtain ⟨w6,bk,hw6,hbk,hl6,kk⟩:=new_box w5 #[.bool u1,.slice i1 j1 o1,.bool u2,.slice i2 j2 o2] 47
   rw[←hw6,←hbk]
   have h96:=HB5.out.trans (hl6.mono HB5.out.size)
   have HK6:=ZH (ZN kk (HR5.out.below hl6))
   have HKX6:=ZH (ZN ((h96.block bx (ZL HK.out.1)).trans HK.out.1) ((h96.block bc (ZL HK.out.2)).trans HK.out.2))
   have HB6:=ZH (HAL.out.trans (h96.mono HAL.out.size))
   have HBK:=ZH (show bc<bk∧wa.heap.size≤bk from ⟨by have h1:=ZL HK.out.2; have h2:=HB5.out.size; omega,by have h2:=HB5.out.size; omega⟩)
   obtain ⟨q0,q1,q2,q3⟩:=cells4 (ZR _ w6) kk
   clear hw6 hbk hl6 kk h96 HR5 HB5
   go_wp2_with fail
   refine (ratSign_any HK6.out.2).mono ?_
   rintro e w7 ⟨rfl,hb7⟩
   have HKX7:=ZH (ZN ((hb7.block bx (ZL HKX6.out.1)).trans HKX6.out.1) ((hb7.block bc (ZL HKX6.out.2)).trans HKX6.out.2))
   have HK7:=ZH (ZN ((hb7.block bk (ZL HK6.out.1)).trans HK6.out.1) (HK6.out.2.below hb7))
   have HB7:=ZH (HB6.out.trans (hb7.mono HB6.out.size))
   obtain ⟨sg,hsg⟩:∃s,s=cmpI q.num 0:=⟨_,rfl⟩
   rw[←hsg]
   clear hb7 q0 q1 q2 q3 HKX6 HK6 HB6
   by_cases hz:q=0
   ·have hs0:(sg==0)=true:=by rw[hsg,hz]; rfl
    obtain rfl:f=LF.zero n:=by
     have h:=HF.out.2.2
     rw[hz] at h
     exact lin_scale0 h
    obtain ⟨z0,z1⟩:=cells2 (ZR _ w7) HKX7.out.2
    have f0:=ZF HKX7.out.2 0
    have f1:=ZF HKX7.out.2 1
    have HBF:=ZH ((HB7.out.setCell (p:=⟨bc,0,none⟩) HNE.out.2.1 (.string ⟨#[48]⟩)).setCell (p:=⟨bc,1,none⟩) HNE.out.2.1 (.slice none 0 0))
    clear hsg hz
    go_wp2_with fail
    refine bodyPost_ret (v:=.tuple #[.agg #[.string ⟨#[48]⟩,.slice none 0 0],.bool true]) (by simp[results,Tryz.results9,go_sem,z0,z1]) rfl ⟨_,rfl,⟨.slice none 0 0,?_,?_⟩,HBF.out⟩
    ·rw[show (LF.zero n).c=0 from rfl,num_zero]; rfl
    ·rw[texts_zero]; exact World.ownsRow_nil _ _ _ _
   ·have hs0:(sg==0)=false:=by
     rw[ZQ,hsg]
     have hq0:q.num≠0:=fun h=>hz (Rat.num_eq_zero.1 h)
     unfold cmpI
     split
     ·decide
     ·split
      ·decide
      ·omega
    obtain ⟨g,hga,rfl⟩:=lin_scale HF.out.2.2 hz
    have hlg:=lite_lin (by have h:=HF.out.1; rwa[Over] at h) (arg_lite (j:=0) HF.out.2.1 (by simp[argG])) hga
    have hih:=HIH.out 0 (by simp[argG]) g hga
    simp only[argG,List.getD_cons_zero] at hih
    have han:an=1:=by rw[HN.out.1]; rfl
    subst han
    obtain ⟨_,_,he,-,-,hcx⟩:=HAX.out
    simp only[Value.slice.injEq] at he
    obtain ⟨rfl,-,rfl⟩:=he
    obtain ⟨gb,og,rfl,-,hcc⟩:=hcx (by simp[argG,raws])
    obtain ⟨utv,ua,uc,c0,c1',c2',c3,c4,htk,hak⟩:=hcc.at (j:=0) (by simp[argG,raws])
    simp only[argG,raws,List.getD_cons_zero,Nat.zero_mul,Nat.add_zero] at c0 c1' c2' c3 c4 htk hak
    obtain ⟨uta,utc,rfl,-⟩:=id htk
    obtain ⟨uo,huo⟩:∃q,q=(raw a).op:=⟨_,rfl⟩
    obtain ⟨us0,hus0⟩:∃s:ByteArray,s=⟨(raw a).c.toArray⟩:=⟨_,rfl⟩
    obtain ⟨us1,hus1⟩:∃s:ByteArray,s=⟨(raw a).f.toArray⟩:=⟨_,rfl⟩
    obtain ⟨utn,hutn⟩:∃q,q=(raw a).t.length:=⟨_,rfl⟩
    obtain ⟨uan,huan⟩:∃q,q=(raw a).a.length:=⟨_,rfl⟩
    have hyx:=ExIn.of htk hak
    rw[←huo,←hus0,←hus1,←hutn,←huan] at hyx
    rw[←huo] at c0
    rw[←hus0] at c1'
    rw[←hutn] at c2'
    rw[←hus1] at c3
    rw[←huan] at c4
    have y0:=ZJ HB7.out c0
    have y1:=ZJ HB7.out c1'
    have y2:=ZJ HB7.out c2'
    have y3:=ZJ HB7.out c3
    have y4:=ZJ HB7.out c4
    have hcl:=hih w7 _ (HG.out.below HB7.out) (hyx.below HB7.out)
    unfold LinPost at hcl
    have HCL:=ZH hcl
    have HLG:=ZH hlg
    have HZ:=ZH hz
    obtain ⟨x0,x1,x2,x3,x4⟩:=cells5 (ZR _ w7) HKX7.out.1
    clear hcx hcc c0 c1' c2' c3 c4 htk hak hih huo hus0 hus1 hutn huan hyx hcl hlg hga hsg hz
    go_wp2_with fail
    refine HCL.out.mono ?_
    rintro e w8 ⟨fv,rfl,hff,hb8⟩
    obtain ⟨gs,ga,gn,gc,rfl⟩:=hff.shape
    have HF8:=ZH hff
    have HB8:=ZH hb8
    clear hff hb8 x0 x1 x2 x3 x4 y0 y1 y2 y3 y4 HCL
    go_upto_region 11 with fail
    obtain ⟨w9,bf,hw9,hbf,hl9,kf⟩:=new_box w8 #[.string gs,.slice ga gn gc] 27
    rw[←hw9,←hbf]
    have h79:=HB8.out.trans (hl9.mono HB8.out.size)
    have HK9:=ZH (ZN kf (ZN ((h79.block bk (ZL HK7.out.1)).trans HK7.out.1) ((h79.block bc (ZL HKX7.out.2)).trans HKX7.out.2)))
    have HFR9:=ZH (ZN (HF8.out.below hl9) (HK7.out.2.below h79))
    have HB9:=ZH (HB7.out.trans (h79.mono HB7.out.size))
    have HW9:=ZH (show wa.heap.size≤w9.heap.size by
     have h1:=ZL HK7.out.1
     have h2:=HBK.out.2
     have h3:=h79.size
     omega)
    clear hw9 hbf hl9 kf h79 HF8 HB8 HKX7 HK7
    go_upto_region 13 with fail
    obtain ⟨y0,y1⟩:=cells2 (ZR _ w9) HK9.out.1
    obtain ⟨q0,q1,q2,q3⟩:=cells4 (ZR _ w9) HK9.out.2.1
    have hsc:=mScale_any (HG.out.below HB9.out) HFR9.out.1.reads (L:=formTexts g) (by have h1:=texts_len g; have h2:=HLG.out.2; omega) HFR9.out.2 (by omega) (N:=n) (S:=60) (by omega) (by omega) (liteF_texts HLG.out.1).1 (read_num_ok (by have:=(liteF_texts HLG.out.1).1; omega) (by have:=(liteF_texts HLG.out.1).1; omega)) (fun p hp=>fine_texts HLG.out.1 HLG.out.2 p hp) (by omega)
    rw[read_num,scale_texts HLG.out.2] at hsc
    have HSC:=ZH hsc
    clear hsc
    go_wp2_with fail
    refine HSC.out.mono ?_
    rintro e wb ⟨rv,rfl,hrf,hbb⟩
    obtain ⟨rs,ra,rn,rc,rfl⟩:=hrf.shape
    have kc:=(hbb.block bc (ZL HK9.out.2.2)).trans HK9.out.2.2
    obtain ⟨z0,z1⟩:=cells2 (ZR _ wb) kc
    have f0:=ZF kc 0
    have f1:=ZF kc 1
    have hB:=HB9.out.trans (hbb.mono HB9.out.size)
    have HE:=ZH (ZN ((hrf.sets (b:=bc) (by have h1:=HNE.out.2.2.1; have h2:=HW9.out; omega) (.string rs) (.slice ra rn rc)).mono (B':=w.heap.size) HB9.out.size) ((hB.setCell (p:=⟨bc,0,none⟩) HNE.out.2.1 (.string rs)).setCell (p:=⟨bc,1,none⟩) HNE.out.2.1 (.slice ra rn rc)))
    clear hrf hbb kc hB HSC y0 y1 q0 q1 q2 q3
    go_wp2_with fail
    exact bodyPost_ret (v:=.tuple #[.agg #[.string rs,.slice ra rn rc],.bool true]) (by simp[results,Tryz.results9,go_sem,z0,z1]) rfl ⟨_,rfl,HE.out⟩
  ·have e2:(o==2)=false:=by simpa using h2
   have hmo:=lin_more HF.out.2.2 (by rw[←HN.out.2.2.2.2]; exact hop) (by rw[←HN.out.2.2.2.2]; exact h2)
   have hal:=args_lite HF.out.1 HF.out.2.1 (by rw[←HN.out.2.2.2.2]; exact hop) (by rw[←HN.out.2.2.2.2]; exact h2) (by rw[←HN.out.2.2.2.2]; exact h5)
   have hpl:=lite_pre hal.1 hal.2.1 hal.2.2 hmo.2.2.1
   have HMO:=ZH (ZN hmo (ZN hal hpl))
   rcases (show (o=1)∨(o≠1∧an≤1) by
    rcases hmo.1 with h | h
    ·exact .inl (by rw[HN.out.2.2.2.2]; exact h)
    ·by_cases h1:o=1
     ·exact .inl h1
     ·exact .inr ⟨h1,by rw[HN.out.1]; exact h⟩) with h1 | ⟨h1,han1⟩
   ·subst h1
    have e1:((1:Int) != 1)=false:=rfl
    clear hmo hal hpl
    go_enter Tryz.func9,Tryz.ntmps9
    go_upto_region 1 with fail
    rw[←HW.out.1,←HW.out.2.2,←HW.out.2.1]
    clear HW
    go_upto_region 17 with fail
    obtain ⟨w2,bo,hw2,hbo,hl2,ko⟩:=new_box wa #[.string ⟨#[48]⟩,.slice none 0 0] 27
    rw[←hw2,←hbo]
    have HB2:=ZH (HAL.out.trans (hl2.mono HAL.out.size))
    have HKO:=ZH ko
    have HBO:=ZH (show wa.heap.size≤bo by omega)
    have HKX2:=ZH (ZN ((hl2.block bx (ZL HK.out.1)).trans HK.out.1) ((hl2.block bc (ZL HK.out.2)).trans HK.out.2))
    clear x0 x1 x2 x3 x4
    obtain ⟨x0,x1,x2,x3,x4⟩:=cells5 (ZR _ w2) HKX2.out.1
    clear hw2 hbo hl2 ko
    go_wp2_with fail
    clear x0 x1 x2 x3 x4
    go_loopg [64] an (fun gk i wr=>∃k:Nat,k+gk=an∧i=.int .i64 k∧Hid (∃gs ga gn gc,wr.heap[bo]?=some (.cells #[.string gs,.slice ga gn gc] 27 (0,0))∧FormIn wr w.heap.size (.agg #[.string gs,.slice ga gn gc]) (numText (preF n (argG x) k).c) (formTexts (preF n (argG x) k)))∧Hid (wr.heap[bc]?=some (.cells #[.string ⟨#[]⟩,.slice none 0 0] 27 (0,0)))∧Hid (Below w.heap.size w wr))
    case atStart=>exact ⟨0,by omega,rfl,ZH ⟨_,_,_,_,HKO.out,⟨.slice none 0 0,by rw[show (preF n (argG x) 0).c=0 from rfl,num_zero]; rfl,by rw[show preF n (argG x) 0=LF.zero n from rfl,texts_zero]; exact World.ownsRow_nil _ _ _ _⟩⟩,ZH HKX2.out.2,HB2⟩
    case round=>
     obtain ⟨k,hk,rfl,hacc,hkc,hbw⟩:=hrel
     obtain ⟨gs,ga,gn,gc,hko,hfo⟩:=hacc.out
     by_cases hlt:k<an
     ·have e1':((k:Int)<(an:Int))=True:=eq_true (by omega)
      obtain ⟨_,_,he,-,-,hcx⟩:=HAX.out
      simp only[Value.slice.injEq] at he
      obtain ⟨rfl,-,rfl⟩:=he
      obtain ⟨gb,og,rfl,-,hcc⟩:=hcx (by rw[raws_len,←HN.out.1]; omega)
      have hjl:k<(argG x).length:=by rw[←HN.out.1]; exact hlt
      obtain ⟨utv,ua,uc,c0,c1',c2',c3,c4,htk,hak⟩:=hcc.at (j:=k) (by rw[raws_len]; exact hjl)
      rw[raws_at hjl] at c0 c1' c3 c4 htk hak
      have hmem:(argG x).getD k (.add [])∈argG x:=by rw[List.getD_eq_getElem?_getD,List.getElem?_eq_getElem hjl]; exact List.getElem_mem hjl
      obtain ⟨lg,hlg⟩:=HMO.out.1.2.2.1 _ hmem
      have hih:=HIH.out k hjl lg hlg
      have hps:=preF_succ hjl hlg
      have hll:=lite_lin (HMO.out.2.1.1 _ hmem) (arg_lite HF.out.2.1 hjl) hlg
      obtain ⟨y,hy⟩:∃y,y=(argG x).getD k (.add []):=⟨_,rfl⟩
      rw[←hy] at c0 c1' c3 c4 htk hak hih
      obtain ⟨uta,utc,rfl,-⟩:=id htk
      obtain ⟨uo,huo⟩:∃q,q=(raw y).op:=⟨_,rfl⟩
      obtain ⟨us0,hus0⟩:∃s:ByteArray,s=⟨(raw y).c.toArray⟩:=⟨_,rfl⟩
      obtain ⟨us1,hus1⟩:∃s:ByteArray,s=⟨(raw y).f.toArray⟩:=⟨_,rfl⟩
      obtain ⟨utn,hutn⟩:∃q,q=(raw y).t.length:=⟨_,rfl⟩
      obtain ⟨uan,huan⟩:∃q,q=(raw y).a.length:=⟨_,rfl⟩
      have hyx:=ExIn.of htk hak
      rw[←huo,←hus0,←hus1,←hutn,←huan] at hyx
      rw[←huo] at c0
      rw[←hus0] at c1'
      rw[←hutn] at c2'
      rw[←hus1] at c3
      rw[←huan] at c4
      have x0:=ZJ hbw.out c0
      have x1:=ZJ hbw.out c1'
      have x2:=ZJ hbw.out c2'
      have x3:=ZJ hbw.out c3
      have x4:=ZJ hbw.out c4
      have HY:=ZH (ZN hyx (ZN hih (ZN hps (ZN hll hlt))))
      have HFO:=ZH (ZN hko (ZN hfo hkc.out))
      have hk0:(0:Int)≤(k:Int):=by omega
      have hk1:(k:Int)<(an:Int):=by omega
      clear hcx hcc c0 c1' c2' c3 c4 htk hak hih hlg hps hll hmem hy huo hus0 hus1 hutn huan hyx hlt hko hfo hkc hacc hjl
      go_upto_region 20 with fail
      obtain ⟨w4,by',hw4,hby,hl4,ky⟩:=new_box wr #[.int .i64 uo,.string us0,.slice uta utn utc,.string us1,.slice ua uan uc] 30
      rw[←hw4,←hby]
      have HB4:=ZH (hbw.out.trans (hl4.mono hbw.out.size))
      have HFO4:=ZH (ZN ((hl4.block bo (ZL HFO.out.1)).trans HFO.out.1) (ZN (HFO.out.2.1.below hl4) ((hl4.block bc (ZL HFO.out.2.2)).trans HFO.out.2.2)))
      have hcl:=HY.out.2.1 w4 _ (HG.out.below HB4.out) (HY.out.1.below HB4.out)
      unfold LinPost at hcl
      have HCL:=ZH hcl
      clear x0 x1 x2 x3 x4
      obtain ⟨y0,y1,y2,y3,y4⟩:=cells5 (ZR _ w4) ky
      clear hw4 hby hl4 ky hk0 hk1 hbw hcl HFO
      go_wp2_with fail
      refine HCL.out.mono ?_
      rintro e w8 ⟨fv,rfl,hff,hb8⟩
      obtain ⟨ls,la,ln,lc,rfl⟩:=hff.shape
      have HF8:=ZH hff
      have HB8:=ZH hb8
      clear hff hb8 y0 y1 y2 y3 y4 HCL
      go_upto_region 21 with fail
      obtain ⟨w9,bf,hw9,hbf,hl9,kf⟩:=new_box w8 #[.string ls,.slice la ln lc] 27
      rw[←hw9,←hbf]
      have h79:=HB8.out.trans (hl9.mono HB8.out.size)
      have HK9:=ZH (ZN kf (ZN ((h79.block bo (ZL HFO4.out.1)).trans HFO4.out.1) ((h79.block bc (ZL HFO4.out.2.2)).trans HFO4.out.2.2)))
      have HFR9:=ZH (ZN (HF8.out.below hl9) (HFO4.out.2.1.below h79))
      have HB9:=ZH (HB4.out.trans (h79.mono HB4.out.size))
      have HBL:=ZH (show bo<w4.heap.size∧w.heap.size≤bo∧bo≠bc from ⟨ZL HFO4.out.1,Nat.le_trans HAL.out.size HBO.out,by have h1:=HNE.out.2.2.1; have h2:=HBO.out; omega⟩)
      clear hw9 hbf hl9 kf h79 HF8 HB8 HFO4
      go_upto_region 23 with fail
      obtain ⟨y0,y1⟩:=cells2 (ZR _ w9) HK9.out.1
      obtain ⟨q0,q1⟩:=cells2 (ZR _ w9) HK9.out.2.1
      have hpk:=HMO.out.2.2 k
      have had:=mAdd_any (HG.out.below HB9.out) HFR9.out.2.reads HFR9.out.1.reads (L:=formTexts (preF n (argG x) k)) (M:=formTexts lg) (by have h1:=texts_len (preF n (argG x) k); have h2:=hpk.2; omega) (by have h1:=texts_len lg; have h2:=HY.out.2.2.2.1.2; omega) (N:=n) (S:=60) (by omega) (by omega) (liteF_texts hpk.1).1 (read_num_ok (by have:=(liteF_texts hpk.1).1; omega) (by have:=(liteF_texts hpk.1).1; omega)) (liteF_texts HY.out.2.2.2.1.1).1 (read_num_ok (by have:=(liteF_texts HY.out.2.2.2.1.1).1; omega) (by have:=(liteF_texts HY.out.2.2.2.1.1).1; omega)) (fun p hp=>by
       rcases List.mem_append.1 hp with h | h
       ·exact fine_texts hpk.1 hpk.2 p h
       ·exact fine_texts HY.out.2.2.2.1.1 HY.out.2.2.2.1.2 p h) (by
       have h1:=texts_len (preF n (argG x) k)
       have h2:=hpk.2
       have h3:=texts_len lg
       have h4:=HY.out.2.2.2.1.2
       omega)
      rw[read_num,read_num,add_texts hpk.2 HY.out.2.2.2.1.2] at had
      have had2:(preF n (argG x) k).c+lg.c=(preF n (argG x) (k+1)).c:=by rw[HY.out.2.2.1]; rfl
      rw[had2,←HY.out.2.2.1] at had
      have HAD:=ZH had
      clear had had2 hpk
      go_wp2_with fail
      refine HAD.out.mono ?_
      rintro e wb ⟨rv,rfl,hrf,hbb⟩
      obtain ⟨rs,ra,rn,rc,rfl⟩:=hrf.shape
      have kc:=(hbb.block bo (ZL HK9.out.2.1)).trans HK9.out.2.1
      have kcc:=(hbb.block bc (ZL HK9.out.2.2)).trans HK9.out.2.2
      obtain ⟨z0,z1⟩:=cells2 (ZR _ wb) kc
      have f0:=ZF kc 0
      have f1:=ZF kc 1
      have hB:=HB9.out.trans (hbb.mono HB9.out.size)
      have HE:=ZH (ZN ((hrf.sets (b:=bo) (ZL HK9.out.2.1) (.string rs) (.slice ra rn rc)).mono (B':=w.heap.size) HB9.out.size) (ZN ((hB.setCell (p:=⟨bo,0,none⟩) HBL.out.2.1 (.string rs)).setCell (p:=⟨bo,1,none⟩) HBL.out.2.1 (.slice ra rn rc)) (ZN (two_sets kc (.string rs) (.slice ra rn rc)) ((off_sets HBL.out.2.2.symm (.string rs) (.slice ra rn rc)).trans kcc))))
      clear hrf hbb kc kcc hB HAD y0 y1 q0 q1
      go_wp2_with fail
      go_roundg (an-(k+1))
      case measure=>have:=HY.out.2.2.2.2; omega
      case rel=>exact ⟨k+1,by have:=HY.out.2.2.2.2; omega,by first | (congr 1; done) | (congr 1; exact IntWalk.wrap64_in ((k:Int)+1) (by have:=HY.out.2.2.2.2; omega)),ZH ⟨_,_,_,_,HE.out.2.2.1,HE.out.1⟩,ZH HE.out.2.2.2,ZH HE.out.2.1⟩
     ·have e1':((k:Int)<(an:Int))=False:=eq_false (by omega)
      obtain rfl:k=an:=by omega
      have hfl:preF n (argG x) k=f:=by rw[HN.out.1]; exact HMO.out.1.2.2.2.symm
      rw[hfl] at hfo
      obtain ⟨y0,y1⟩:=cells2 (ZR _ wr) hko
      obtain ⟨z0,z1⟩:=cells2 (ZR _ wr) hkc.out
      have f0:=ZF hkc.out 0
      have f1:=ZF hkc.out 1
      have HE:=ZH (ZN (formin_off hfo hkc.out (by decide) (.string gs) (.slice ga gn gc)) ((hbw.out.setCell (p:=⟨bc,0,none⟩) HNE.out.2.1 (.string gs)).setCell (p:=⟨bc,1,none⟩) HNE.out.2.1 (.slice ga gn gc)))
      clear hfl hfo hko hkc hacc hbw
      go_wp2_with fail
      exact bodyPost_ret (v:=.tuple #[.agg #[.string gs,.slice ga gn gc],.bool true]) (by simp[results,Tryz.results9,go_sem,z0,z1]) rfl ⟨_,rfl,HE.out⟩
   ·have e1:(o != 1)=true:=by simpa using h1
    have e6:((1:Int)<(an:Int))=False:=eq_false (by omega)
    clear hop h5 h2 h1 han1 hmo hal hpl
    go_enter Tryz.func9,Tryz.ntmps9
    go_upto_region 1 with fail
    rw[←HW.out.1,←HW.out.2.2,←HW.out.2.1]
    clear HW
    go_upto_region 17 with fail
    obtain ⟨w2,bo,hw2,hbo,hl2,ko⟩:=new_box wa #[.string ⟨#[48]⟩,.slice none 0 0] 27
    rw[←hw2,←hbo]
    have HB2:=ZH (HAL.out.trans (hl2.mono HAL.out.size))
    have HKO:=ZH ko
    have HBO:=ZH (show wa.heap.size≤bo by omega)
    have HKX2:=ZH (ZN ((hl2.block bx (ZL HK.out.1)).trans HK.out.1) ((hl2.block bc (ZL HK.out.2)).trans HK.out.2))
    clear x0 x1 x2 x3 x4
    obtain ⟨x0,x1,x2,x3,x4⟩:=cells5 (ZR _ w2) HKX2.out.1
    clear hw2 hbo hl2 ko
    go_wp2_with fail
    clear x0 x1 x2 x3 x4
    go_loopg [64] an (fun gk i wr=>∃k:Nat,k+gk=an∧i=.int .i64 k∧Hid (∃gs ga gn gc,wr.heap[bo]?=some (.cells #[.string gs,.slice ga gn gc] 27 (0,0))∧FormIn wr w.heap.size (.agg #[.string gs,.slice ga gn gc]) (numText (preF n (argG x) k).c) (formTexts (preF n (argG x) k)))∧Hid (wr.heap[bc]?=some (.cells #[.string ⟨#[]⟩,.slice none 0 0] 27 (0,0)))∧Hid (Below w.heap.size w wr))
    case atStart=>exact ⟨0,by omega,rfl,ZH ⟨_,_,_,_,HKO.out,⟨.slice none 0 0,by rw[show (preF n (argG x) 0).c=0 from rfl,num_zero]; rfl,by rw[show preF n (argG x) 0=LF.zero n from rfl,texts_zero]; exact World.ownsRow_nil _ _ _ _⟩⟩,ZH HKX2.out.2,HB2⟩
    case round=>
     obtain ⟨k,hk,rfl,hacc,hkc,hbw⟩:=hrel
     obtain ⟨gs,ga,gn,gc,hko,hfo⟩:=hacc.out
     by_cases hlt:k<an
     ·have e1':((k:Int)<(an:Int))=True:=eq_true (by omega)
      obtain ⟨_,_,he,-,-,hcx⟩:=HAX.out
      simp only[Value.slice.injEq] at he
      obtain ⟨rfl,-,rfl⟩:=he
      obtain ⟨gb,og,rfl,-,hcc⟩:=hcx (by rw[raws_len,←HN.out.1]; omega)
      have hjl:k<(argG x).length:=by rw[←HN.out.1]; exact hlt
      obtain ⟨utv,ua,uc,c0,c1',c2',c3,c4,htk,hak⟩:=hcc.at (j:=k) (by rw[raws_len]; exact hjl)
      rw[raws_at hjl] at c0 c1' c3 c4 htk hak
      have hmem:(argG x).getD k (.add [])∈argG x:=by rw[List.getD_eq_getElem?_getD,List.getElem?_eq_getElem hjl]; exact List.getElem_mem hjl
      obtain ⟨lg,hlg⟩:=HMO.out.1.2.2.1 _ hmem
      have hih:=HIH.out k hjl lg hlg
      have hps:=preF_succ hjl hlg
      have hll:=lite_lin (HMO.out.2.1.1 _ hmem) (arg_lite HF.out.2.1 hjl) hlg
      obtain ⟨y,hy⟩:∃y,y=(argG x).getD k (.add []):=⟨_,rfl⟩
      rw[←hy] at c0 c1' c3 c4 htk hak hih
      obtain ⟨uta,utc,rfl,-⟩:=id htk
      obtain ⟨uo,huo⟩:∃q,q=(raw y).op:=⟨_,rfl⟩
      obtain ⟨us0,hus0⟩:∃s:ByteArray,s=⟨(raw y).c.toArray⟩:=⟨_,rfl⟩
      obtain ⟨us1,hus1⟩:∃s:ByteArray,s=⟨(raw y).f.toArray⟩:=⟨_,rfl⟩
      obtain ⟨utn,hutn⟩:∃q,q=(raw y).t.length:=⟨_,rfl⟩
      obtain ⟨uan,huan⟩:∃q,q=(raw y).a.length:=⟨_,rfl⟩
      have hyx:=ExIn.of htk hak
      rw[←huo,←hus0,←hus1,←hutn,←huan] at hyx
      rw[←huo] at c0
      rw[←hus0] at c1'
      rw[←hutn] at c2'
      rw[←hus1] at c3
      rw[←huan] at c4
      have x0:=ZJ hbw.out c0
      have x1:=ZJ hbw.out c1'
      have x2:=ZJ hbw.out c2'
      have x3:=ZJ hbw.out c3
      have x4:=ZJ hbw.out c4
      have HY:=ZH (ZN hyx (ZN hih (ZN hps (ZN hll hlt))))
      have HFO:=ZH (ZN hko (ZN hfo hkc.out))
      have hk0:(0:Int)≤(k:Int):=by omega
      have hk1:(k:Int)<(an:Int):=by omega
      clear hcx hcc c0 c1' c2' c3 c4 htk hak hih hlg hps hll hmem hy huo hus0 hus1 hutn huan hyx hlt hko hfo hkc hacc hjl
      go_upto_region 20 with fail
      obtain ⟨w4,by',hw4,hby,hl4,ky⟩:=new_box wr #[.int .i64 uo,.string us0,.slice uta utn utc,.string us1,.slice ua uan uc] 30
      rw[←hw4,←hby]
      have HB4:=ZH (hbw.out.trans (hl4.mono hbw.out.size))
      have HFO4:=ZH (ZN ((hl4.block bo (ZL HFO.out.1)).trans HFO.out.1) (ZN (HFO.out.2.1.below hl4) ((hl4.block bc (ZL HFO.out.2.2)).trans HFO.out.2.2)))
      have hcl:=HY.out.2.1 w4 _ (HG.out.below HB4.out) (HY.out.1.below HB4.out)
      unfold LinPost at hcl
      have HCL:=ZH hcl
      clear x0 x1 x2 x3 x4
      obtain ⟨y0,y1,y2,y3,y4⟩:=cells5 (ZR _ w4) ky
      clear hw4 hby hl4 ky hk0 hk1 hbw hcl HFO
      go_wp2_with fail
      refine HCL.out.mono ?_
      rintro e w8 ⟨fv,rfl,hff,hb8⟩
      obtain ⟨ls,la,ln,lc,rfl⟩:=hff.shape
      have HF8:=ZH hff
      have HB8:=ZH hb8
      clear hff hb8 y0 y1 y2 y3 y4 HCL
      go_upto_region 21 with fail
      obtain ⟨w9,bf,hw9,hbf,hl9,kf⟩:=new_box w8 #[.string ls,.slice la ln lc] 27
      rw[←hw9,←hbf]
      have h79:=HB8.out.trans (hl9.mono HB8.out.size)
      have HK9:=ZH (ZN kf (ZN ((h79.block bo (ZL HFO4.out.1)).trans HFO4.out.1) ((h79.block bc (ZL HFO4.out.2.2)).trans HFO4.out.2.2)))
      have HFR9:=ZH (ZN (HF8.out.below hl9) (HFO4.out.2.1.below h79))
      have HB9:=ZH (HB4.out.trans (h79.mono HB4.out.size))
      have HBL:=ZH (show bo<w4.heap.size∧w.heap.size≤bo∧bo≠bc from ⟨ZL HFO4.out.1,Nat.le_trans HAL.out.size HBO.out,by have h1:=HNE.out.2.2.1; have h2:=HBO.out; omega⟩)
      clear hw9 hbf hl9 kf h79 HF8 HB8 HFO4
      go_upto_region 23 with fail
      obtain ⟨y0,y1⟩:=cells2 (ZR _ w9) HK9.out.1
      obtain ⟨q0,q1⟩:=cells2 (ZR _ w9) HK9.out.2.1
      have hpk:=HMO.out.2.2 k
      have had:=mAdd_any (HG.out.below HB9.out) HFR9.out.2.reads HFR9.out.1.reads (L:=formTexts (preF n (argG x) k)) (M:=formTexts lg) (by have h1:=texts_len (preF n (argG x) k); have h2:=hpk.2; omega) (by have h1:=texts_len lg; have h2:=HY.out.2.2.2.1.2; omega) (N:=n) (S:=60) (by omega) (by omega) (liteF_texts hpk.1).1 (read_num_ok (by have:=(liteF_texts hpk.1).1; omega) (by have:=(liteF_texts hpk.1).1; omega)) (liteF_texts HY.out.2.2.2.1.1).1 (read_num_ok (by have:=(liteF_texts HY.out.2.2.2.1.1).1; omega) (by have:=(liteF_texts HY.out.2.2.2.1.1).1; omega)) (fun p hp=>by
       rcases List.mem_append.1 hp with h | h
       ·exact fine_texts hpk.1 hpk.2 p h
       ·exact fine_texts HY.out.2.2.2.1.1 HY.out.2.2.2.1.2 p h) (by
       have h1:=texts_len (preF n (argG x) k)
       have h2:=hpk.2
       have h3:=texts_len lg
       have h4:=HY.out.2.2.2.1.2
       omega)
      rw[read_num,read_num,add_texts hpk.2 HY.out.2.2.2.1.2] at had
      have had2:(preF n (argG x) k).c+lg.c=(preF n (argG x) (k+1)).c:=by rw[HY.out.2.2.1]; rfl
      rw[had2,←HY.out.2.2.1] at had
      have HAD:=ZH had
      clear had had2 hpk
      go_wp2_with fail
      refine HAD.out.mono ?_
      rintro e wb ⟨rv,rfl,hrf,hbb⟩
      obtain ⟨rs,ra,rn,rc,rfl⟩:=hrf.shape
      have kc:=(hbb.block bo (ZL HK9.out.2.1)).trans HK9.out.2.1
      have kcc:=(hbb.block bc (ZL HK9.out.2.2)).trans HK9.out.2.2
      obtain ⟨z0,z1⟩:=cells2 (ZR _ wb) kc
      have f0:=ZF kc 0
      have f1:=ZF kc 1
      have hB:=HB9.out.trans (hbb.mono HB9.out.size)
      have HE:=ZH (ZN ((hrf.sets (b:=bo) (ZL HK9.out.2.1) (.string rs) (.slice ra rn rc)).mono (B':=w.heap.size) HB9.out.size) (ZN ((hB.setCell (p:=⟨bo,0,none⟩) HBL.out.2.1 (.string rs)).setCell (p:=⟨bo,1,none⟩) HBL.out.2.1 (.slice ra rn rc)) (ZN (two_sets kc (.string rs) (.slice ra rn rc)) ((off_sets HBL.out.2.2.symm (.string rs) (.slice ra rn rc)).trans kcc))))
      clear hrf hbb kc kcc hB HAD y0 y1 q0 q1
      go_wp2_with fail
      go_roundg (an-(k+1))
      case measure=>have:=HY.out.2.2.2.2; omega
      case rel=>exact ⟨k+1,by have:=HY.out.2.2.2.2; omega,by first | (congr 1; done) | (congr 1; exact IntWalk.wrap64_in ((k:Int)+1) (by have:=HY.out.2.2.2.2; omega)),ZH ⟨_,_,_,_,HE.out.2.2.1,HE.out.1⟩,ZH HE.out.2.2.2,ZH HE.out.2.1⟩
     ·have e1':((k:Int)<(an:Int))=False:=eq_false (by omega)
      obtain rfl:k=an:=by omega
      have hfl:preF n (argG x) k=f:=by rw[HN.out.1]; exact HMO.out.1.2.2.2.symm
      rw[hfl] at hfo
      obtain ⟨y0,y1⟩:=cells2 (ZR _ wr) hko
      obtain ⟨z0,z1⟩:=cells2 (ZR _ wr) hkc.out
      have f0:=ZF hkc.out 0
      have f1:=ZF hkc.out 1
      have HE:=ZH (ZN (formin_off hfo hkc.out (by decide) (.string gs) (.slice ga gn gc)) ((hbw.out.setCell (p:=⟨bc,0,none⟩) HNE.out.2.1 (.string gs)).setCell (p:=⟨bc,1,none⟩) HNE.out.2.1 (.slice ga gn gc)))
      clear hfl hfo hko hkc hacc hbw
      go_wp2_with fail
      exact bodyPost_ret (v:=.tuple #[.agg #[.string gs,.slice ga gn gc],.bool true]) (by simp[results,Tryz.results9,go_sem,z0,z1]) rfl ⟨_,rfl,HE.out⟩
theorem mLinear_any {n:Nat} (hn:n≤900):∀(m:Nat) (x:GEx),dep x≤m→Over n x→Lite x→∀f,linOf n x=some f→∀(w:World) (v:Value),Glob w→ExIn w (raw x) v→Calls Tryz.prog 9 #[v] w (LinPost w f)
 | 0,x,hm,_,_=>by cases x<;>rw[dep] at hm<;>omega
 | m+1,x,hm,ho,hl=>fun f hf w v hg hx=>mLinear_step hn x (fun j hj g hg=>mLinear_any hn m _ (by have:=arg_dep hj; omega) (arg_over ho hj) (arg_lite hl hj) g hg) ho hl hf hg hx
theorem mNormal_lin {n:Nat} (hn:n≤900) {x:GEx} (ho:Over n x) (hl:Lite x) {f:LF} (hf:linOf n x=some f) {w:World} {v:Value} (hg:Glob w) (hx:ExIn w (raw x) v):Calls Tryz.prog 14 #[v] w fun e w'=>∃v',e=.returned v'∧ExIn w' (raw (.form f)) v'∧Below w.heap.size w w':=by
 obtain ⟨s0,s1,ta,tn,tc,aa,an,ac,rfl⟩:=ex_shape hx
 obtain ⟨o,hor⟩:∃x',x'=(raw x).op:=⟨_,rfl⟩
 rw[←hor] at hx⊢
 obtain ⟨wa,bx,bc,hwa,hbx,hbc,hal,k0,k1⟩:=new_two w #[.int .i64 o,.string s0,.slice ta tn tc,.string s1,.slice aa an ac] #[.int .i64 0,.string ⟨#[]⟩,.slice none 0 0,.string ⟨#[]⟩,.slice none 0 0] 30 30
 have hli:=mLinear_any hn (dep x) x (Nat.le_refl _) ho hl f hf wa _ (hg.below hal) (hx.below hal)
 unfold LinPost at hli
 have HLI:=ZH hli
 have HAL:=ZH hal
 have HK:=ZH k1
 have HNE:=ZH (show w.heap.size≤bc∧bc<wa.heap.size from ⟨by omega,ZL k1⟩)
 have HW:=ZH (ZN hwa (ZN hbx hbc))
 obtain ⟨x0,x1,x2,x3,x4⟩:=cells5 (ZR _ wa) k0
 clear hwa hbx hbc hal k0 k1 hg hx hor hli ho hl hf
 go_enter Tryz.func14,Tryz.ntmps14
 go_upto_region 1 with fail
 rw[←HW.out.1,←HW.out.2.2,←HW.out.2.1]
 clear HW
 go_wp2_with fail
 refine HLI.out.mono ?_
 rintro e w1 ⟨fv,rfl,hff,hb1⟩
 obtain ⟨gs,ga,gn,gc,rfl⟩:=hff.shape
 have HF1:=ZH hff
 have HB1:=ZH hb1
 clear hff hb1 x0 x1 x2 x3 x4 HLI
 go_upto_region 3 with fail
 obtain ⟨w2,bf,hw2,hbf,hl2,kf⟩:=new_box w1 #[.string gs,.slice ga gn gc] 27
 rw[←hw2,←hbf]
 have HF2:=ZH (HF1.out.below hl2)
 have h12:=HB1.out.trans (hl2.mono HB1.out.size)
 have HK2:=ZH ((h12.block bc (ZL HK.out)).trans HK.out)
 have HB2:=ZH (HAL.out.trans (h12.mono HAL.out.size))
 obtain ⟨y0,y1⟩:=cells2 (ZR _ w2) kf
 clear hw2 hbf hl2 kf h12 HF1 HB1
 go_wp2_with fail
 refine (mplain_val gs ga gn gc).mono ?_
 rintro e w3 ⟨rfl,hb3⟩
 have kc:=(hb3.block bc (ZL HK2.out)).trans HK2.out
 obtain ⟨z0,z1,z2,z3,z4⟩:=cells5 (ZR _ w3) kc
 have f0:=ZF kc 0
 have f1:=ZF kc 1
 have f2:=ZF kc 2
 have f3:=ZF kc 3
 have f4:=ZF kc 4
 have hB:=HB2.out.trans (hb3.mono HB2.out.size)
 have HBF:=ZH (below_five hB HNE.out.1 (.int .i64 0) (.string gs) (.slice ga gn gc) (.string ⟨#[]⟩) (.slice none 0 0))
 obtain ⟨tv,e9,htr⟩:=HF2.out.below hb3
 have htv:TermRow w3 wa.heap.size (.slice ga gn gc) (formTexts f)∧gs=⟨(numText f.c).toArray⟩:=by
  simp only[Value.agg.injEq] at e9
  have e9:=congrArg Array.toList e9
  simp only[List.cons.injEq,and_true,Value.string.injEq] at e9
  exact ⟨by rw[e9.2]; exact htr,e9.1⟩
 have hts:=((((htv.1.set HNE.out.2 0 (.int .i64 0)).set HNE.out.2 1 (.string gs)).set HNE.out.2 2 (.slice ga gn gc)).set HNE.out.2 3 (.string ⟨#[]⟩)).set HNE.out.2 4 (.slice none 0 0)
 have HX:=ZH (ZN htv.2 hts.reads.z)
 clear hb3 hB y0 y1 htr hts kc e9 tv htv
 go_wp2_with fail
 refine bodyPost_ret (v:=.agg #[.int .i64 0,.string gs,.slice ga gn gc,.string ⟨#[]⟩,.slice none 0 0]) (by simp[results,Tryz.results14,go_sem,z0,z1,z2,z3,z4]) rfl ⟨_,rfl,?_,HBF.out⟩
 rw[raw]
 have h:=ExIn.of (x:=.mk 0 (numText f.c) (zTerms (formTexts f)) [] []) HX.out.2 (exs_none _)
 rw[HX.out.1] at h⊢
 exact h
end Go.Proofs.YtdcaaehapdhckaaGreatDoor
