/- dimension.Linear, of an expression that is linear. -/
import Derived.Test.YtdgimcmappmjdaaGreatDoorK2
import Derived.Test.YtdgimcmappmjdaaGreatDoorK1
set_option linter.unusedSimpArgs false
set_option linter.unusedVariables false
set_option maxRecDepth 100000
namespace Go.Proofs.YtdgimcmappmjdaaGreatDoor
open List renaming setIfInBounds_toArray → zLa, set_cons_zero → zLb, set_cons_succ → zLc
open FlowR renaming putSel → zFp
open Act renaming put → zAp
open Nat renaming zero_add → zNz
open Flow.Steps renaming cons → zSc, nil → zSn
open FlowR.Step renaming of → zSo
open Go.RowKit Go.Num Go.Flow
open Go.Gx (LF GEx Over linOf dep)
set_option maxHeartbeats 8000000
set_option linter.unusedVariables false

theorem num_zero : numText 0=nilTxt:=by kernel_rfl
theorem two_sets {w:World} {b:Nat} {x y:Value} {t:TypeId} (h:w.heap[b]?=some (.cells #[x,y] t (0,0))) (u v:Value):((w.setCell ⟨b,0,none⟩ u).setCell ⟨b,1,none⟩ v).heap[b]?=some (.cells #[u,v] t (0,0)):=by
 simp[World.setCell,Array.getElem?_modify,h]
theorem off_sets {w:World} {b c:Nat} (h:c≠b) (u v:Value):((w.setCell ⟨b,0,none⟩ u).setCell ⟨b,1,none⟩ v).heap[c]?=w.heap[c]?:=(Below.heap_setCell (w.setCell ⟨b,0,none⟩ u) ⟨b,1,none⟩ v c h).trans (Below.heap_setCell w ⟨b,0,none⟩ u c h)
def LinPost (w:World) (f:LF) (e:Ending) (w':World):Prop:=∃fv,e=.returned (.tuple #[fv,.bool true])∧FormIn w' w.heap.size fv (numText f.c) (formTexts f)∧Below w.heap.size w w'
theorem FormIn.shape {w:World} {B:Nat} {v:Value} {c:List UInt8} {l:List (Nat×List UInt8)} (h:FormIn w B v c l):∃s a n cc,v=.agg #[.string s,.slice a n cc]:=by
 obtain ⟨tv,e,ht⟩:=h
 obtain ⟨a,n,cc,rfl⟩:=ht.shape
 exact ⟨_,_,_,_,e⟩
theorem FormIn.sets {w:World} {B b:Nat} {v:Value} {c:List UInt8} {l:List (Nat×List UInt8)} (h:FormIn w B v c l) (hb:b<B) (u x:Value):FormIn ((w.setCell ⟨b,0,none⟩ u).setCell ⟨b,1,none⟩ x) B v c l:=by
 obtain ⟨tv,e,ht⟩:=h
 exact ⟨tv,e,(ht.set hb 0 u).set hb 1 x⟩
theorem FormIn.mono {w:World} {B B':Nat} {v:Value} {c:List UInt8} {l:List (Nat×List UInt8)} (h:FormIn w B v c l) (hb:B'≤B):FormIn w B' v c l:=by
 obtain ⟨tv,e,ht⟩:=h
 exact ⟨tv,e,World.ownsRow.mono ht hb⟩
theorem formin_off {w:World} {B b:Nat} {v:Value} {c:List UInt8} {l:List (Nat×List UInt8)} (h:FormIn w B v c l) {cs:Array Value} {t:TypeId} (hk:w.heap[b]?=some (.cells cs t (0,0))) (ht:t≠118) (u x:Value):FormIn ((w.setCell ⟨b,0,none⟩ u).setCell ⟨b,1,none⟩ x) B v c l:=by
 obtain ⟨tv,e,h2⟩:=h
 have h3:=h2.off hk ht
 exact ⟨tv,e,(h2.setNe h3 0 u).setNe h3 1 x⟩
theorem mLinear_step {n:Nat} (hn:n≤900) (x:GEx) (ih:∀j,j<(argG x).length→∀g,linOf n ((argG x).getD j (.add []))=some g→∀(w:World) (v:Value),Glob w→ExIn w (raw ((argG x).getD j (.add []))) v→Calls Tryz.prog 33 #[v] w (LinPost w g))
  (ho:Over n x) (hl:Lite x) {f:LF} (hf:linOf n x=some f) {w:World} {v:Value} (hg:Glob w) (hx:ExIn w (raw x) v):Calls Tryz.prog 33 #[v] w (LinPost w f):=by
 unfold LinPost
 obtain ⟨tv,aa,ac,rfl,bN,bi⟩:=hx.out
 rw[raw_args] at bi⊢
 rw[raws_len] at bi⊢
 obtain ⟨ta,tc,rfl,-⟩:=id bN
 obtain ⟨s0,bK⟩:∃s:ByteArray,s=⟨(raw x).c.toArray⟩:=⟨_,rfl⟩
 obtain ⟨s1,be⟩:∃s:ByteArray,s=⟨(raw x).f.toArray⟩:=⟨_,rfl⟩
 obtain ⟨tn,bQ⟩:∃x',x'=(raw x).t.length:=⟨_,rfl⟩
 obtain ⟨an,bh⟩:∃x',x'=(argG x).length:=⟨_,rfl⟩
 obtain ⟨o,b8⟩:∃x',x'=(raw x).op:=⟨_,rfl⟩
 rw[←bK,←be,←bQ,←bh,←b8]
 rw[←bQ] at bN
 rw[←bh] at bi
 have co:o=opG x:=by rw[b8,raw_op]
 obtain ⟨wa,bx,bc,cm,cl,cr,aW,k0,k1⟩:=new_two w #[.int .i64 o,.string s0,.slice ta tn tc,.string s1,.slice aa an ac] #[.string ⟨#[]⟩,.slice none 0 0] 63 57
 have hcap:an≤ac∧ac≤9223372036854775807:=by
  obtain ⟨_,_,e,h1,h2,-⟩:=bi
  simp only[Value.slice.injEq] at e
  obtain ⟨-,-,rfl⟩:=e
  rw[raws_len,←bh] at h1
  exact ⟨h1,h2⟩
 have HG:=ZH hg
 have HF:=ZH (ZN ho (ZN hl hf))
 have HTZ:=ZH bN
 have b0:=ZH bi
 have cc:=ZH ih
 have am:=ZH aW
 have HK:=ZH (ZN k0 k1)
 have aC:=ZH (show bx≠bc∧w.heap.size≤bc∧bc<wa.heap.size∧bx<wa.heap.size from ⟨by omega,by omega,ZL k1,ZL k0⟩)
 have HN:=ZH (ZN bh (ZN bK (ZN be (ZN bQ co))))
 have HW:=ZH (ZN cm (ZN cl cr))
 have a8:=ZH (ZR wa.heap.size wa)
 obtain ⟨x0,x1,x2,x3,x4⟩:=cells5 (ZR _ wa) k0
 clear cm cl cr aW hg bN bi ih bK be bQ hx b8 bh co ho hl hf k0 k1
 by_cases hop:o=0
 ·-- a form
  subst hop
  have bH:=ZH (show ∃g,x=.form g from by
   have:=HN.out.2.2.2.2
   cases x with
   | form g=>exact ⟨g,rfl⟩
   | _=>exact absurd this (by simp[opG]))
  obtain ⟨g,rfl⟩:=bH.out
  clear bH
  obtain rfl:g=f:=by have h:=HF.out.2.2; rw[linOf] at h; simpa using h
  have ay:g.t.length=n:=by have:=HF.out.1; rwa[Over] at this
  have cb:=lite_form HF.out.2.1
  have cd:=fine_texts cb ay
  have bp:=texts_len g
  have bI:=(liteF_texts cb).1
  have bb:s0.data.toList=numText g.c:=by rw[HN.out.2.1,raw]; rfl
  have ba:=fun (W:World) (hgW:Glob W)=>mread_any s0 (w:=W) (by
   have h1:s0.size=(numText g.c).length:=by rw[HN.out.2.1,raw]; simp[ByteArray.size,Ex.c]
   omega) hgW (by rw[bb]; exact read_num_ok (by omega) (by omega))
  rw[bb,read_num] at ba
  have aZ:FormAt wa (.agg #[.string s0,.slice ta tn tc]) (numText g.c) (formTexts g):=by
   refine ⟨.slice ta tn tc,by rw[HN.out.2.1,raw]; rfl,TermsZ.nat (l:=formTexts g) ?_⟩
   have h:=HTZ.out.below am.out
   rw[raw] at h
   exact h
  have bM:=ZH ba
  have ao:=ZH (ZN aZ (ZN cd (ZN bp (ZN ay bI))))
  obtain ⟨SM,bW⟩:∃l,l=formTexts g:=⟨_,rfl⟩
  obtain ⟨CT,cn⟩:∃l,l=numText g.c:=⟨_,rfl⟩
  have bA:sumTerms (scaleAll (formTexts g) 1 noMap) n=SM:=by
   rw[scale_texts ay,bW]
   congr 1
   unfold LF.scale
   rw[Rat.mul_one]
   have:g.t.map (fun x=>x*1)=g.t:=by
    conv=>rhs; rw[←List.map_id g.t]
    exact List.map_congr_left fun r _=>Rat.mul_one r
   rw[this]
  have bV:=ZH (ZN bW (ZN cn bA))
  have bl:=ZH (scaleAll_keys (T:=formTexts g) (N:=n) (r:=1) (m:=noMap) (fun p hp=>(cd p hp).1) (noMap_keys n))
  clear ay cb cd bp bI bb ba aZ bW cn bA
  go_enter Tryz.func33,Tryz.ntmps33
  go_upto_region 1 with fail
  rw[←HW.out.1,←HW.out.2.2,←HW.out.2.1]
  clear HW
  go_upto_region 3 with fail
  clear x0 x1 x2 x3 x4
  refine FlowR.wp_region_sel (fun a b=>Below a.heap.size a b) (fun a=>ZR _ a) (fun _ _ _ h k=>h.trans (k.mono h.size)) [0,1,2,3,4,5,6,7] [false,false,false,false,false,false,false,false,false,false] [true,true,true,true,true,true,true,true,false,false] (fun i9 v w'=>match i9 with
   | 0=>v=.pointer (some ⟨bx,1,none⟩)
   | 1=>v=.pointer (some ⟨bx,1,none⟩)
   | 2=>v=.string s0
   | 3=>RtIn w' v g.c 62
   | 4=>v=.pointer (some ⟨bx,1,none⟩)
   | 5=>v=.agg #[.string s0,.slice ta tn tc]
   | 6=>∃bm,v=.map (some bm)∧RMapIn w' bm (formTexts g).length 62 (scaleAll (formTexts g) 1 noMap)
   | _=>FormIn w' wa.heap.size v CT SM) rfl rfl (by kernel_rfl) (by kernel_rfl) (by kernel_rfl) (by kernel_rfl) ?st ?_ ?_
  case st=>
   intro i9 v u1 u2 h hb
   match i9 with
   | 0 | 1 | 2 | 4 | 5=>exact h
   | 3=>exact RtIn.below h hb
   | 6=>exact (by obtain ⟨bm,q1,q2⟩:=(show ∃bm,v=.map (some bm)∧RMapIn u1 bm (formTexts g).length 62 (scaleAll (formTexts g) 1 noMap) from h); exact ⟨bm,q1,q2.below hb⟩)
   | 7 | _+8=>exact (show FormIn u1 wa.heap.size v CT SM from h).below hb
  refine zSc (zSo rfl ?s0) (zSc (zSo rfl ?s1) (zSc (zSo rfl ?s2) (zSc (zSo rfl ?s3) (zSc (zSo rfl ?s4) (zSc (zSo rfl ?s5) (zSc (zSo rfl ?s6) (zSc (zSo rfl ?s7) zSn)))))))
  case s0 | s4=>
   intro xs w' hb hT K9 ae
   clear hT
   simp only[zFp,zAp,zLa,zLb,zLc,Nat.reduceAdd,zNz] at ae⊢
   have hw:=Flow.hwD a8.out hb
   go_simp
   exact ae _ _ (ZR _ _) rfl
  case s1=>
   intro xs w' hb hT K9 ae
   have h0:(xs 0)=.pointer (some ⟨bx,1,none⟩):=hT 0 (by kernel_rfl)
   clear hT
   simp only[zFp,zAp,zLa,zLb,zLc,Nat.reduceAdd,zNz] at ae⊢
   have hw:=Flow.hwD a8.out hb
   (try simp only[h0] at ae)
   go_simp
   exact ae _ _ (ZR _ _) rfl
  case s2=>
   intro xs w' hb hT K9 ae
   have h1:(xs 1)=.pointer (some ⟨bx,1,none⟩):=hT 1 (by kernel_rfl)
   clear hT
   simp only[zFp,zAp,zLa,zLb,zLc,Nat.reduceAdd,zNz] at ae⊢
   have hw:=Flow.hwD a8.out hb
   have kb:=(hw.block bx (ZL HK.out.1)).trans HK.out.1
   have y0:=ZI kb 1
   clear kb
   simp at y0
   (try simp only[h1] at ae)
   go_simp
   exact ae _ _ (ZR _ _) rfl
  case s3=>
   intro xs w' hb hT K9 ae
   have h2:(xs 2)=.string s0:=hT 2 (by kernel_rfl)
   clear hT
   simp only[zFp,zAp,zLa,zLb,zLc,Nat.reduceAdd,zNz] at ae⊢
   have hw:=Flow.hwD a8.out hb
   (try simp only[h2] at ae)
   go_simp
   go_at_call 73
   refine (bM.out w' (HG.out.below (am.out.trans (hw.mono am.out.size)))).mono ?_
   rintro e w3 ⟨v3,rfl,bY,bs⟩
   exact ae _ _ bs (bY.more (by have:=ao.out.2.2.2.2; omega))
  case s5=>
   intro xs w' hb hT K9 ae
   have h4:(xs 4)=.pointer (some ⟨bx,1,none⟩):=hT 4 (by kernel_rfl)
   clear hT
   simp only[zFp,zAp,zLa,zLb,zLc,Nat.reduceAdd,zNz] at ae⊢
   have hw:=Flow.hwD a8.out hb
   (try simp only[h4] at ae)
   have kb:=(hw.block bx (ZL HK.out.1)).trans HK.out.1
   have y1:=ZI kb 1
   have y2:=ZI kb 2
   clear kb
   simp at y1 y2
   go_simp
   exact ae _ _ (ZR _ _) rfl
  case s6=>
   intro xs w' hb hT K9 ae
   have h5:(xs 5)=.agg #[.string s0,.slice ta tn tc]:=hT 5 (by kernel_rfl)
   clear hT
   simp only[zFp,zAp,zLa,zLb,zLc,Nat.reduceAdd,zNz] at ae⊢
   have hw:=Flow.hwD a8.out hb
   (try simp only[h5] at ae)
   go_simp
   go_at_call 85
   refine (mfactorsOf_any (HG.out.below (am.out.trans (hw.mono am.out.size))) (ao.out.1.below hw) (by have:=ao.out.2.2; omega) (N:=n) (S:=60) (by omega) (by omega) (fun p hp=>ao.out.2.1 p hp)).mono ?_
   rintro e w3 ⟨bm,rfl,-,hm3,bs⟩
   exact ae _ _ bs ⟨bm,rfl,hm3⟩
  case s7=>
   intro xs w' hb hT K9 ae
   have h3:RtIn w' (xs 3) g.c 62:=hT 3 (by kernel_rfl)
   have h6:∃bm,(xs 6)=.map (some bm)∧RMapIn w' bm (formTexts g).length 62 (scaleAll (formTexts g) 1 noMap):=hT 6 (by kernel_rfl)
   clear hT
   simp only[zFp,zAp,zLa,zLb,zLc,Nat.reduceAdd,zNz] at ae⊢
   have hw:=Flow.hwD a8.out hb
   obtain ⟨bm,e6,hm6⟩:=h6
   (try simp only[e6] at ae)
   go_simp
   go_at_call 84
   refine (mForm_any (HG.out.below (am.out.trans (hw.mono am.out.size))) h3 (by omega) hm6 (by have:=ao.out.2.2; omega) (by omega) (N:=n) (by omega) bl.out).mono ?_
   rintro e w3 ⟨v3,rfl,bY,bs⟩
   exact ae _ _ bs (by rw[bV.out.2.1,←bV.out.2.2]; exact bY.mono hw.size)
  intro xs w' hb hT
  have hw:=Flow.hwD a8.out hb
  have h7:FormIn w' wa.heap.size (xs 7) CT SM:=hT 7 (by rfl)
  clear hT
  simp only[zFp,zAp,zLa,zLb,zLc,Nat.reduceAdd,zNz,FlowR.restL,FlowR.orM,Bool.false_or]
  obtain ⟨tv9,e9,b6⟩:=h7
  obtain ⟨a9,n9,c9,rfl⟩:=b6.shape
  simp only[e9]
  clear e9 hb
  have ak:=(hw.block bc (ZL HK.out.2)).trans HK.out.2
  obtain ⟨z0,z1⟩:=cells2 (ZR _ w') ak
  have f0:=ZF ak 0
  have f1:=ZF ak 1
  obtain ⟨CS,b4⟩:∃s:ByteArray,s=⟨CT.toArray⟩:=⟨_,rfl⟩
  rw[←b4]
  have hr:=(b6.set aC.out.2.2.1 0 (.string CS)).set aC.out.2.2.1 1 (.slice a9 n9 c9)
  have aw:=((am.out.trans (hw.mono am.out.size)).setCell (p:=⟨bc,0,none⟩) aC.out.2.1 (.string CS)).setCell (p:=⟨bc,1,none⟩) aC.out.2.1 (.slice a9 n9 c9)
  have HE:=ZH (ZN hr (ZN aw b4))
  clear b6 hr aw ak hw b4
  go_wp2_with fail
  refine bodyPost_ret (v:=.tuple #[.agg #[.string CS,.slice a9 n9 c9],.bool true]) (by simp[results,Tryz.results33,go_sem,z0,z1]) rfl ⟨_,rfl,⟨_,by rw[HE.out.2.2,bV.out.2.1],?_⟩,HE.out.2.1⟩
  rw[←bV.out.1]
  exact World.ownsRow.mono HE.out.1 am.out.size
 ·have e0:(o==0)=false:=by simpa using hop
  have h5:o≠5:=by
   have h1:=HF.out.2.2
   have h2:=HN.out.2.2.2.2
   intro e
   cases x with
   | abs a=>simp[linOf] at h1
   | _=>rw[e] at h2; simp[opG] at h2
  have e5:(o==5)=false:=by simpa using h5
  by_cases h2:o=2
  ·subst h2
   have bH:=ZH (show ∃q a,x=.scale q a from by
    have:=HN.out.2.2.2.2
    cases x with
    | scale q a=>exact ⟨q,a,rfl⟩
    | _=>exact absurd this (by simp[opG]))
   obtain ⟨q,a,rfl⟩:=bH.out
   clear bH e5 h5
   have cq:(numText q).length≤60:=by
    obtain ⟨h1,h2⟩:=HF.out.2.1
    have h3:=HF.out.1
    rw[Go.Gx.Den] at h1
    rw[Go.Gx.wt] at h2
    rw[Over] at h3
    obtain ⟨d,r,e,h4,-⟩:=h1
    have h5:=Go.Gx.one_wt h3
    have h6:=Go.Gx.big_ab q
    have h7:=Go.Gx.big_one q
    refine (lite_num (r:=q) ?_ ?_).1
    ·have:=Go.Gx.m2_more h4 (20-d)
     rwa[show 20-d+d=20 by omega] at this
    ·have h8:Go.Gx.big q*1≤Go.Gx.big q*Go.Gx.wt a:=Rat.mul_le_mul_of_nonneg_left h5 (by grind)
     rw[Rat.mul_one] at h8
     exact Rat.le_trans h6 (Rat.le_trans h8 h2)
   have be:s1.data.toList=numText q:=by rw[HN.out.2.2.1,raw]; rfl
   have ba:=mread_any s1 (w:=wa) (by
    have h1:s1.size=(numText q).length:=by rw[HN.out.2.2.1,raw]; simp[ByteArray.size,Ex.f]
    omega) (HG.out.below am.out) (by rw[be]; exact read_num_ok (by omega) (by omega))
   rw[be,read_num] at ba
   have bM:=ZH ba
   have HQ:=ZH cq
   clear cq be ba hop
   go_enter Tryz.func33,Tryz.ntmps33
   go_upto_region 1 with fail
   rw[←HW.out.1,←HW.out.2.2,←HW.out.2.1]
   clear HW
   go_wp2_with fail
   refine bM.out.mono ?_
   rintro e w5 ⟨v5,rfl,b3,ck⟩
   obtain ⟨u1,i1,j1,o1,u2,i2,j2,o2,rfl⟩:=rt_shape b3
   have cg:=ZH (b3.more (show (numText q).length+2≤62 by have:=HQ.out; omega))
   have bq:=ZH ck
   clear b3 ck x0 x1 x2 x3 x4 bM
   go_upto_region 8 with fail
   obtain ⟨w6,bk,cj,ci,b1,kk⟩:=new_box w5 #[.bool u1,.slice i1 j1 o1,.bool u2,.slice i2 j2 o2] 43
   rw[←cj,←ci]
   have bT:=bq.out.trans (b1.mono bq.out.size)
   have br:=ZH (ZN kk (cg.out.below b1))
   have aK:=ZH (ZN ((bT.block bx (ZL HK.out.1)).trans HK.out.1) ((bT.block bc (ZL HK.out.2)).trans HK.out.2))
   have b2:=ZH (am.out.trans (bT.mono am.out.size))
   have HBK:=ZH (show bc<bk∧wa.heap.size≤bk from ⟨by have h1:=ZL HK.out.2; have h2:=bq.out.size; omega,by have h2:=bq.out.size; omega⟩)
   obtain ⟨q0,q1,q2,q3⟩:=cells4 (ZR _ w6) kk
   clear cj ci b1 kk bT cg bq
   go_wp2_with fail
   refine (ratSign_any br.out.2).mono ?_
   rintro e w7 ⟨rfl,bj⟩
   have aB:=ZH (ZN ((bj.block bx (ZL aK.out.1)).trans aK.out.1) ((bj.block bc (ZL aK.out.2)).trans aK.out.2))
   have bz:=ZH (ZN ((bj.block bk (ZL br.out.1)).trans br.out.1) (br.out.2.below bj))
   have aT:=ZH (b2.out.trans (bj.mono b2.out.size))
   obtain ⟨sg,bv⟩:∃s,s=cmpI q.num 0:=⟨_,rfl⟩
   rw[←bv]
   clear bj q0 q1 q2 q3 aK br b2
   by_cases hz:q=0
   ·have bK:(sg==0)=true:=by rw[bv,hz]; rfl
    obtain rfl:f=LF.zero n:=by
     have h:=HF.out.2.2
     rw[hz] at h
     exact lin_scale0 h
    obtain ⟨z0,z1⟩:=cells2 (ZR _ w7) aB.out.2
    have f0:=ZF aB.out.2 0
    have f1:=ZF aB.out.2 1
    have HBF:=ZH ((aT.out.setCell (p:=⟨bc,0,none⟩) aC.out.2.1 (.string ⟨#[48]⟩)).setCell (p:=⟨bc,1,none⟩) aC.out.2.1 (.slice none 0 0))
    clear bv hz
    go_wp2_with fail
    refine bodyPost_ret (v:=.tuple #[.agg #[.string ⟨#[48]⟩,.slice none 0 0],.bool true]) (by simp[results,Tryz.results33,go_sem,z0,z1]) rfl ⟨_,rfl,⟨.slice none 0 0,?_,?_⟩,HBF.out⟩
    ·rw[show (LF.zero n).c=0 from rfl,num_zero]; rfl
    ·rw[texts_zero]; exact World.ownsRow_nil _ _ _ _
   ·have bK:(sg==0)=false:=by
     rw[ZQ,bv]
     have hq0:q.num≠0:=fun h=>hz (Rat.num_eq_zero.1 h)
     unfold cmpI
     split
     ·decide
     ·split
      ·decide
      ·omega
    obtain ⟨g,bZ,rfl⟩:=lin_scale HF.out.2.2 hz
    have aF:=lite_lin (by have h:=HF.out.1; rwa[Over] at h) (arg_lite (j:=0) HF.out.2.1 (by simp[argG])) bZ
    have aI:=cc.out 0 (by simp[argG]) g bZ
    simp only[argG,List.getD_cons_zero] at aI
    have bh:an=1:=by rw[HN.out.1]; rfl
    subst bh
    obtain ⟨_,_,he,-,-,a3⟩:=b0.out
    simp only[Value.slice.injEq] at he
    obtain ⟨rfl,-,rfl⟩:=he
    obtain ⟨gb,og,rfl,-,a2⟩:=a3 (by simp[argG,raws])
    obtain ⟨ch,ua,uc,c0,av,aG,c3,c4,ax,aE⟩:=a2.at (j:=0) (by simp[argG,raws])
    simp only[argG,raws,List.getD_cons_zero,Nat.zero_mul,Nat.add_zero] at c0 av aG c3 c4 ax aE
    obtain ⟨bL,bP,rfl,-⟩:=id ax
    obtain ⟨uo,aP⟩:∃q,q=(raw a).op:=⟨_,rfl⟩
    obtain ⟨bO,ag⟩:∃s:ByteArray,s=⟨(raw a).c.toArray⟩:=⟨_,rfl⟩
    obtain ⟨bR,ai⟩:∃s:ByteArray,s=⟨(raw a).f.toArray⟩:=⟨_,rfl⟩
    obtain ⟨bS,ah⟩:∃q,q=(raw a).t.length:=⟨_,rfl⟩
    obtain ⟨bU,af⟩:∃q,q=(raw a).a.length:=⟨_,rfl⟩
    have aN:=ExIn.of ax aE
    rw[←aP,←ag,←ai,←ah,←af] at aN
    rw[←aP] at c0
    rw[←ag] at av
    rw[←ah] at aG
    rw[←ai] at c3
    rw[←af] at c4
    have y0:=ZJ aT.out c0
    have y1:=ZJ aT.out av
    have y2:=ZJ aT.out aG
    have y3:=ZJ aT.out c3
    have y4:=ZJ aT.out c4
    have aJ:=aI w7 _ (HG.out.below aT.out) (aN.below aT.out)
    unfold LinPost at aJ
    have a5:=ZH aJ
    have bg:=ZH aF
    have HZ:=ZH hz
    obtain ⟨x0,x1,x2,x3,x4⟩:=cells5 (ZR _ w7) aB.out.1
    clear a3 a2 c0 av aG c3 c4 ax aE aI aP ag ai ah af aN aJ aF bZ bv hz
    go_wp2_with fail
    refine a5.out.mono ?_
    rintro e w8 ⟨fv,rfl,aQ,a6⟩
    obtain ⟨gs,ga,gn,gc,rfl⟩:=aQ.shape
    have a0:=ZH aQ
    have aR:=ZH a6
    clear aQ a6 x0 x1 x2 x3 x4 y0 y1 y2 y3 y4 a5
    go_upto_region 11 with fail
    obtain ⟨w9,bf,a7,a1,aS,kf⟩:=new_box w8 #[.string gs,.slice ga gn gc] 57
    rw[←a7,←a1]
    have aq:=aR.out.trans (aS.mono aR.out.size)
    have al:=ZH (ZN kf (ZN ((aq.block bk (ZL bz.out.1)).trans bz.out.1) ((aq.block bc (ZL aB.out.2)).trans aB.out.2)))
    have ar:=ZH (ZN (a0.out.below aS) (bz.out.2.below aq))
    have aD:=ZH (aT.out.trans (aq.mono aT.out.size))
    have HW9:=ZH (show wa.heap.size≤w9.heap.size by
     have h1:=ZL bz.out.1
     have h2:=HBK.out.2
     have h3:=aq.size
     omega)
    clear a7 a1 aS kf aq a0 aR aB bz
    go_upto_region 13 with fail
    obtain ⟨y0,y1⟩:=cells2 (ZR _ w9) al.out.1
    obtain ⟨q0,q1,q2,q3⟩:=cells4 (ZR _ w9) al.out.2.1
    have b9:=mScale_any (HG.out.below aD.out) ar.out.1.reads (L:=formTexts g) (by have h1:=texts_len g; have h2:=bg.out.2; omega) ar.out.2 (by omega) (N:=n) (S:=60) (by omega) (by omega) (liteF_texts bg.out.1).1 (read_num_ok (by have:=(liteF_texts bg.out.1).1; omega) (by have:=(liteF_texts bg.out.1).1; omega)) (fun p hp=>fine_texts bg.out.1 bg.out.2 p hp) (by omega)
    rw[read_num,scale_texts bg.out.2] at b9
    have cp:=ZH b9
    clear b9
    go_wp2_with fail
    refine cp.out.mono ?_
    rintro e wb ⟨rv,rfl,aM,aw⟩
    obtain ⟨rs,ra,rn,rc,rfl⟩:=aM.shape
    have kc:=(aw.block bc (ZL al.out.2.2)).trans al.out.2.2
    obtain ⟨z0,z1⟩:=cells2 (ZR _ wb) kc
    have f0:=ZF kc 0
    have f1:=ZF kc 1
    have hB:=aD.out.trans (aw.mono aD.out.size)
    have HE:=ZH (ZN ((aM.sets (b:=bc) (by have h1:=aC.out.2.2.1; have h2:=HW9.out; omega) (.string rs) (.slice ra rn rc)).mono (B':=w.heap.size) aD.out.size) ((hB.setCell (p:=⟨bc,0,none⟩) aC.out.2.1 (.string rs)).setCell (p:=⟨bc,1,none⟩) aC.out.2.1 (.slice ra rn rc)))
    clear aM aw kc hB cp y0 y1 q0 q1 q2 q3
    go_wp2_with fail
    exact bodyPost_ret (v:=.tuple #[.agg #[.string rs,.slice ra rn rc],.bool true]) (by simp[results,Tryz.results33,go_sem,z0,z1]) rfl ⟨_,rfl,HE.out⟩
  ·have e2:(o==2)=false:=by simpa using h2
   have bE:=lin_more HF.out.2.2 (by rw[←HN.out.2.2.2.2]; exact hop) (by rw[←HN.out.2.2.2.2]; exact h2)
   have aW:=args_lite HF.out.1 HF.out.2.1 (by rw[←HN.out.2.2.2.2]; exact hop) (by rw[←HN.out.2.2.2.2]; exact h2) (by rw[←HN.out.2.2.2.2]; exact h5)
   have cf:=lite_pre aW.1 aW.2.1 aW.2.2 bE.2.2.1
   have a4:=ZH (ZN bE (ZN aW cf))
   rcases (show (o=1)∨(o≠1∧an≤1) by
    rcases bE.1 with h | h
    ·exact .inl (by rw[HN.out.2.2.2.2]; exact h)
    ·by_cases h1:o=1
     ·exact .inl h1
     ·exact .inr ⟨h1,by rw[HN.out.1]; exact h⟩) with h1 | ⟨h1,han1⟩
   ·subst h1
    have e1:((1:Int) != 1)=false:=rfl
    clear bE aW cf
    go_enter Tryz.func33,Tryz.ntmps33
    go_upto_region 1 with fail
    rw[←HW.out.1,←HW.out.2.2,←HW.out.2.1]
    clear HW
    go_upto_region 17 with fail
    obtain ⟨w2,bo,bF,bD,aU,ko⟩:=new_box wa #[.string ⟨#[48]⟩,.slice none 0 0] 57
    rw[←bF,←bD]
    have ce:=ZH (am.out.trans (aU.mono am.out.size))
    have b5:=ZH ko
    have bt:=ZH (show wa.heap.size≤bo by omega)
    have aL:=ZH (ZN ((aU.block bx (ZL HK.out.1)).trans HK.out.1) ((aU.block bc (ZL HK.out.2)).trans HK.out.2))
    clear x0 x1 x2 x3 x4
    obtain ⟨x0,x1,x2,x3,x4⟩:=cells5 (ZR _ w2) aL.out.1
    clear bF bD aU ko
    go_wp2_with fail
    clear x0 x1 x2 x3 x4
    go_loopg [64] an (fun gk i wr=>∃k:Nat,k+gk=an∧i=.int .i64 k∧Hid (∃gs ga gn gc,wr.heap[bo]?=some (.cells #[.string gs,.slice ga gn gc] 57 (0,0))∧FormIn wr w.heap.size (.agg #[.string gs,.slice ga gn gc]) (numText (preF n (argG x) k).c) (formTexts (preF n (argG x) k)))∧Hid (wr.heap[bc]?=some (.cells #[.string ⟨#[]⟩,.slice none 0 0] 57 (0,0)))∧Hid (Below w.heap.size w wr))
    case atStart=>exact ⟨0,by omega,rfl,ZH ⟨_,_,_,_,b5.out,⟨.slice none 0 0,by rw[show (preF n (argG x) 0).c=0 from rfl,num_zero]; rfl,by rw[show preF n (argG x) 0=LF.zero n from rfl,texts_zero]; exact World.ownsRow_nil _ _ _ _⟩⟩,ZH aL.out.2,ce⟩
    case round=>
     obtain ⟨k,hk,rfl,aA,ak,aj⟩:=hrel
     obtain ⟨gs,ga,gn,gc,aY,ay⟩:=aA.out
     by_cases hlt:k<an
     ·have b7:((k:Int)<(an:Int))=True:=eq_true (by omega)
      obtain ⟨_,_,he,-,-,a3⟩:=b0.out
      simp only[Value.slice.injEq] at he
      obtain ⟨rfl,-,rfl⟩:=he
      obtain ⟨gb,og,rfl,-,a2⟩:=a3 (by rw[raws_len,←HN.out.1]; omega)
      have au:k<(argG x).length:=by rw[←HN.out.1]; exact hlt
      obtain ⟨ch,ua,uc,c0,av,aG,c3,c4,ax,aE⟩:=a2.at (j:=k) (by rw[raws_len]; exact au)
      rw[raws_at au] at c0 av c3 c4 ax aE
      have az:(argG x).getD k (.add [])∈argG x:=by rw[List.getD_eq_getElem?_getD,List.getElem?_eq_getElem au]; exact List.getElem_mem au
      obtain ⟨lg,aF⟩:=a4.out.1.2.2.1 _ az
      have aI:=cc.out k au lg aF
      have bC:=preF_succ au aF
      have bn:=lite_lin (a4.out.2.1.1 _ az) (arg_lite HF.out.2.1 au) aF
      obtain ⟨y,hy⟩:∃y,y=(argG x).getD k (.add []):=⟨_,rfl⟩
      rw[←hy] at c0 av c3 c4 ax aE aI
      obtain ⟨bL,bP,rfl,-⟩:=id ax
      obtain ⟨uo,aP⟩:∃q,q=(raw y).op:=⟨_,rfl⟩
      obtain ⟨bO,ag⟩:∃s:ByteArray,s=⟨(raw y).c.toArray⟩:=⟨_,rfl⟩
      obtain ⟨bR,ai⟩:∃s:ByteArray,s=⟨(raw y).f.toArray⟩:=⟨_,rfl⟩
      obtain ⟨bS,ah⟩:∃q,q=(raw y).t.length:=⟨_,rfl⟩
      obtain ⟨bU,af⟩:∃q,q=(raw y).a.length:=⟨_,rfl⟩
      have aN:=ExIn.of ax aE
      rw[←aP,←ag,←ai,←ah,←af] at aN
      rw[←aP] at c0
      rw[←ag] at av
      rw[←ah] at aG
      rw[←ai] at c3
      rw[←af] at c4
      have x0:=ZJ aj.out c0
      have x1:=ZJ aj.out av
      have x2:=ZJ aj.out aG
      have x3:=ZJ aj.out c3
      have x4:=ZJ aj.out c4
      have HY:=ZH (ZN aN (ZN aI (ZN bC (ZN bn hlt))))
      have ao:=ZH (ZN aY (ZN ay ak.out))
      have bX:(0:Int)≤(k:Int):=by omega
      have ca:(k:Int)<(an:Int):=by omega
      clear a3 a2 c0 av aG c3 c4 ax aE aI aF bC bn az hy aP ag ai ah af aN hlt aY ay ak aA au
      go_upto_region 20 with fail
      obtain ⟨w4,by',bG,bB,aO,ky⟩:=new_box wr #[.int .i64 uo,.string bO,.slice bL bS bP,.string bR,.slice ua bU uc] 63
      rw[←bG,←bB]
      have aX:=ZH (aj.out.trans (aO.mono aj.out.size))
      have ad:=ZH (ZN ((aO.block bo (ZL ao.out.1)).trans ao.out.1) (ZN (ao.out.2.1.below aO) ((aO.block bc (ZL ao.out.2.2)).trans ao.out.2.2)))
      have aJ:=HY.out.2.1 w4 _ (HG.out.below aX.out) (HY.out.1.below aX.out)
      unfold LinPost at aJ
      have a5:=ZH aJ
      clear x0 x1 x2 x3 x4
      obtain ⟨y0,y1,y2,y3,y4⟩:=cells5 (ZR _ w4) ky
      clear bG bB aO ky bX ca aj aJ ao
      go_wp2_with fail
      refine a5.out.mono ?_
      rintro e w8 ⟨fv,rfl,aQ,a6⟩
      obtain ⟨ls,la,ln,lc,rfl⟩:=aQ.shape
      have a0:=ZH aQ
      have aR:=ZH a6
      clear aQ a6 y0 y1 y2 y3 y4 a5
      go_upto_region 21 with fail
      obtain ⟨w9,bf,a7,a1,aS,kf⟩:=new_box w8 #[.string ls,.slice la ln lc] 57
      rw[←a7,←a1]
      have aq:=aR.out.trans (aS.mono aR.out.size)
      have al:=ZH (ZN kf (ZN ((aq.block bo (ZL ad.out.1)).trans ad.out.1) ((aq.block bc (ZL ad.out.2.2)).trans ad.out.2.2)))
      have ar:=ZH (ZN (a0.out.below aS) (ad.out.2.1.below aq))
      have aD:=ZH (aX.out.trans (aq.mono aX.out.size))
      have bd:=ZH (show bo<w4.heap.size∧w.heap.size≤bo∧bo≠bc from ⟨ZL ad.out.1,Nat.le_trans am.out.size bt.out,by have h1:=aC.out.2.2.1; have h2:=bt.out; omega⟩)
      clear a7 a1 aS kf aq a0 aR ad
      go_upto_region 23 with fail
      obtain ⟨y0,y1⟩:=cells2 (ZR _ w9) al.out.1
      obtain ⟨q0,q1⟩:=cells2 (ZR _ w9) al.out.2.1
      have ap:=a4.out.2.2 k
      have aV:=mAdd_any (HG.out.below aD.out) ar.out.2.reads ar.out.1.reads (L:=formTexts (preF n (argG x) k)) (M:=formTexts lg) (by have h1:=texts_len (preF n (argG x) k); have h2:=ap.2; omega) (by have h1:=texts_len lg; have h2:=HY.out.2.2.2.1.2; omega) (N:=n) (S:=60) (by omega) (by omega) (liteF_texts ap.1).1 (read_num_ok (by have:=(liteF_texts ap.1).1; omega) (by have:=(liteF_texts ap.1).1; omega)) (liteF_texts HY.out.2.2.2.1.1).1 (read_num_ok (by have:=(liteF_texts HY.out.2.2.2.1.1).1; omega) (by have:=(liteF_texts HY.out.2.2.2.1.1).1; omega)) (fun p hp=>by
       rcases List.mem_append.1 hp with h | h
       ·exact fine_texts ap.1 ap.2 p h
       ·exact fine_texts HY.out.2.2.2.1.1 HY.out.2.2.2.1.2 p h) (by
       have h1:=texts_len (preF n (argG x) k)
       have h2:=ap.2
       have h3:=texts_len lg
       have h4:=HY.out.2.2.2.1.2
       omega)
      rw[read_num,read_num,add_texts ap.2 HY.out.2.2.2.1.2] at aV
      have aH:(preF n (argG x) k).c+lg.c=(preF n (argG x) (k+1)).c:=by rw[HY.out.2.2.1]; rfl
      rw[aH,←HY.out.2.2.1] at aV
      have bw:=ZH aV
      clear aV aH ap
      go_wp2_with fail
      refine bw.out.mono ?_
      rintro e wb ⟨rv,rfl,aM,aw⟩
      obtain ⟨rs,ra,rn,rc,rfl⟩:=aM.shape
      have kc:=(aw.block bo (ZL al.out.2.1)).trans al.out.2.1
      have bJ:=(aw.block bc (ZL al.out.2.2)).trans al.out.2.2
      obtain ⟨z0,z1⟩:=cells2 (ZR _ wb) kc
      have f0:=ZF kc 0
      have f1:=ZF kc 1
      have hB:=aD.out.trans (aw.mono aD.out.size)
      have HE:=ZH (ZN ((aM.sets (b:=bo) (ZL al.out.2.1) (.string rs) (.slice ra rn rc)).mono (B':=w.heap.size) aD.out.size) (ZN ((hB.setCell (p:=⟨bo,0,none⟩) bd.out.2.1 (.string rs)).setCell (p:=⟨bo,1,none⟩) bd.out.2.1 (.slice ra rn rc)) (ZN (two_sets kc (.string rs) (.slice ra rn rc)) ((off_sets bd.out.2.2.symm (.string rs) (.slice ra rn rc)).trans bJ))))
      clear aM aw kc bJ hB bw y0 y1 q0 q1
      go_wp2_with fail
      go_roundg (an-(k+1))
      case measure=>have:=HY.out.2.2.2.2; omega
      case rel=>exact ⟨k+1,by have:=HY.out.2.2.2.2; omega,by first | (congr 1; done) | (congr 1; exact IntWalk.wrap64_in ((k:Int)+1) (by have:=HY.out.2.2.2.2; omega)),ZH ⟨_,_,_,_,HE.out.2.2.1,HE.out.1⟩,ZH HE.out.2.2.2,ZH HE.out.2.1⟩
     ·have b7:((k:Int)<(an:Int))=False:=eq_false (by omega)
      obtain rfl:k=an:=by omega
      have bu:preF n (argG x) k=f:=by rw[HN.out.1]; exact a4.out.1.2.2.2.symm
      rw[bu] at ay
      obtain ⟨y0,y1⟩:=cells2 (ZR _ wr) aY
      obtain ⟨z0,z1⟩:=cells2 (ZR _ wr) ak.out
      have f0:=ZF ak.out 0
      have f1:=ZF ak.out 1
      have HE:=ZH (ZN (formin_off ay ak.out (by decide) (.string gs) (.slice ga gn gc)) ((aj.out.setCell (p:=⟨bc,0,none⟩) aC.out.2.1 (.string gs)).setCell (p:=⟨bc,1,none⟩) aC.out.2.1 (.slice ga gn gc)))
      clear bu ay aY ak aA aj
      go_wp2_with fail
      exact bodyPost_ret (v:=.tuple #[.agg #[.string gs,.slice ga gn gc],.bool true]) (by simp[results,Tryz.results33,go_sem,z0,z1]) rfl ⟨_,rfl,HE.out⟩
   ·have e1:(o != 1)=true:=by simpa using h1
    have e6:((1:Int)<(an:Int))=False:=eq_false (by omega)
    clear hop h5 h2 h1 han1 bE aW cf
    go_enter Tryz.func33,Tryz.ntmps33
    go_upto_region 1 with fail
    rw[←HW.out.1,←HW.out.2.2,←HW.out.2.1]
    clear HW
    go_upto_region 17 with fail
    obtain ⟨w2,bo,bF,bD,aU,ko⟩:=new_box wa #[.string ⟨#[48]⟩,.slice none 0 0] 57
    rw[←bF,←bD]
    have ce:=ZH (am.out.trans (aU.mono am.out.size))
    have b5:=ZH ko
    have bt:=ZH (show wa.heap.size≤bo by omega)
    have aL:=ZH (ZN ((aU.block bx (ZL HK.out.1)).trans HK.out.1) ((aU.block bc (ZL HK.out.2)).trans HK.out.2))
    clear x0 x1 x2 x3 x4
    obtain ⟨x0,x1,x2,x3,x4⟩:=cells5 (ZR _ w2) aL.out.1
    clear bF bD aU ko
    go_wp2_with fail
    clear x0 x1 x2 x3 x4
    go_loopg [64] an (fun gk i wr=>∃k:Nat,k+gk=an∧i=.int .i64 k∧Hid (∃gs ga gn gc,wr.heap[bo]?=some (.cells #[.string gs,.slice ga gn gc] 57 (0,0))∧FormIn wr w.heap.size (.agg #[.string gs,.slice ga gn gc]) (numText (preF n (argG x) k).c) (formTexts (preF n (argG x) k)))∧Hid (wr.heap[bc]?=some (.cells #[.string ⟨#[]⟩,.slice none 0 0] 57 (0,0)))∧Hid (Below w.heap.size w wr))
    case atStart=>exact ⟨0,by omega,rfl,ZH ⟨_,_,_,_,b5.out,⟨.slice none 0 0,by rw[show (preF n (argG x) 0).c=0 from rfl,num_zero]; rfl,by rw[show preF n (argG x) 0=LF.zero n from rfl,texts_zero]; exact World.ownsRow_nil _ _ _ _⟩⟩,ZH aL.out.2,ce⟩
    case round=>
     obtain ⟨k,hk,rfl,aA,ak,aj⟩:=hrel
     obtain ⟨gs,ga,gn,gc,aY,ay⟩:=aA.out
     by_cases hlt:k<an
     ·have b7:((k:Int)<(an:Int))=True:=eq_true (by omega)
      obtain ⟨_,_,he,-,-,a3⟩:=b0.out
      simp only[Value.slice.injEq] at he
      obtain ⟨rfl,-,rfl⟩:=he
      obtain ⟨gb,og,rfl,-,a2⟩:=a3 (by rw[raws_len,←HN.out.1]; omega)
      have au:k<(argG x).length:=by rw[←HN.out.1]; exact hlt
      obtain ⟨ch,ua,uc,c0,av,aG,c3,c4,ax,aE⟩:=a2.at (j:=k) (by rw[raws_len]; exact au)
      rw[raws_at au] at c0 av c3 c4 ax aE
      have az:(argG x).getD k (.add [])∈argG x:=by rw[List.getD_eq_getElem?_getD,List.getElem?_eq_getElem au]; exact List.getElem_mem au
      obtain ⟨lg,aF⟩:=a4.out.1.2.2.1 _ az
      have aI:=cc.out k au lg aF
      have bC:=preF_succ au aF
      have bn:=lite_lin (a4.out.2.1.1 _ az) (arg_lite HF.out.2.1 au) aF
      obtain ⟨y,hy⟩:∃y,y=(argG x).getD k (.add []):=⟨_,rfl⟩
      rw[←hy] at c0 av c3 c4 ax aE aI
      obtain ⟨bL,bP,rfl,-⟩:=id ax
      obtain ⟨uo,aP⟩:∃q,q=(raw y).op:=⟨_,rfl⟩
      obtain ⟨bO,ag⟩:∃s:ByteArray,s=⟨(raw y).c.toArray⟩:=⟨_,rfl⟩
      obtain ⟨bR,ai⟩:∃s:ByteArray,s=⟨(raw y).f.toArray⟩:=⟨_,rfl⟩
      obtain ⟨bS,ah⟩:∃q,q=(raw y).t.length:=⟨_,rfl⟩
      obtain ⟨bU,af⟩:∃q,q=(raw y).a.length:=⟨_,rfl⟩
      have aN:=ExIn.of ax aE
      rw[←aP,←ag,←ai,←ah,←af] at aN
      rw[←aP] at c0
      rw[←ag] at av
      rw[←ah] at aG
      rw[←ai] at c3
      rw[←af] at c4
      have x0:=ZJ aj.out c0
      have x1:=ZJ aj.out av
      have x2:=ZJ aj.out aG
      have x3:=ZJ aj.out c3
      have x4:=ZJ aj.out c4
      have HY:=ZH (ZN aN (ZN aI (ZN bC (ZN bn hlt))))
      have ao:=ZH (ZN aY (ZN ay ak.out))
      have bX:(0:Int)≤(k:Int):=by omega
      have ca:(k:Int)<(an:Int):=by omega
      clear a3 a2 c0 av aG c3 c4 ax aE aI aF bC bn az hy aP ag ai ah af aN hlt aY ay ak aA au
      go_upto_region 20 with fail
      obtain ⟨w4,by',bG,bB,aO,ky⟩:=new_box wr #[.int .i64 uo,.string bO,.slice bL bS bP,.string bR,.slice ua bU uc] 63
      rw[←bG,←bB]
      have aX:=ZH (aj.out.trans (aO.mono aj.out.size))
      have ad:=ZH (ZN ((aO.block bo (ZL ao.out.1)).trans ao.out.1) (ZN (ao.out.2.1.below aO) ((aO.block bc (ZL ao.out.2.2)).trans ao.out.2.2)))
      have aJ:=HY.out.2.1 w4 _ (HG.out.below aX.out) (HY.out.1.below aX.out)
      unfold LinPost at aJ
      have a5:=ZH aJ
      clear x0 x1 x2 x3 x4
      obtain ⟨y0,y1,y2,y3,y4⟩:=cells5 (ZR _ w4) ky
      clear bG bB aO ky bX ca aj aJ ao
      go_wp2_with fail
      refine a5.out.mono ?_
      rintro e w8 ⟨fv,rfl,aQ,a6⟩
      obtain ⟨ls,la,ln,lc,rfl⟩:=aQ.shape
      have a0:=ZH aQ
      have aR:=ZH a6
      clear aQ a6 y0 y1 y2 y3 y4 a5
      go_upto_region 21 with fail
      obtain ⟨w9,bf,a7,a1,aS,kf⟩:=new_box w8 #[.string ls,.slice la ln lc] 57
      rw[←a7,←a1]
      have aq:=aR.out.trans (aS.mono aR.out.size)
      have al:=ZH (ZN kf (ZN ((aq.block bo (ZL ad.out.1)).trans ad.out.1) ((aq.block bc (ZL ad.out.2.2)).trans ad.out.2.2)))
      have ar:=ZH (ZN (a0.out.below aS) (ad.out.2.1.below aq))
      have aD:=ZH (aX.out.trans (aq.mono aX.out.size))
      have bd:=ZH (show bo<w4.heap.size∧w.heap.size≤bo∧bo≠bc from ⟨ZL ad.out.1,Nat.le_trans am.out.size bt.out,by have h1:=aC.out.2.2.1; have h2:=bt.out; omega⟩)
      clear a7 a1 aS kf aq a0 aR ad
      go_upto_region 23 with fail
      obtain ⟨y0,y1⟩:=cells2 (ZR _ w9) al.out.1
      obtain ⟨q0,q1⟩:=cells2 (ZR _ w9) al.out.2.1
      have ap:=a4.out.2.2 k
      have aV:=mAdd_any (HG.out.below aD.out) ar.out.2.reads ar.out.1.reads (L:=formTexts (preF n (argG x) k)) (M:=formTexts lg) (by have h1:=texts_len (preF n (argG x) k); have h2:=ap.2; omega) (by have h1:=texts_len lg; have h2:=HY.out.2.2.2.1.2; omega) (N:=n) (S:=60) (by omega) (by omega) (liteF_texts ap.1).1 (read_num_ok (by have:=(liteF_texts ap.1).1; omega) (by have:=(liteF_texts ap.1).1; omega)) (liteF_texts HY.out.2.2.2.1.1).1 (read_num_ok (by have:=(liteF_texts HY.out.2.2.2.1.1).1; omega) (by have:=(liteF_texts HY.out.2.2.2.1.1).1; omega)) (fun p hp=>by
       rcases List.mem_append.1 hp with h | h
       ·exact fine_texts ap.1 ap.2 p h
       ·exact fine_texts HY.out.2.2.2.1.1 HY.out.2.2.2.1.2 p h) (by
       have h1:=texts_len (preF n (argG x) k)
       have h2:=ap.2
       have h3:=texts_len lg
       have h4:=HY.out.2.2.2.1.2
       omega)
      rw[read_num,read_num,add_texts ap.2 HY.out.2.2.2.1.2] at aV
      have aH:(preF n (argG x) k).c+lg.c=(preF n (argG x) (k+1)).c:=by rw[HY.out.2.2.1]; rfl
      rw[aH,←HY.out.2.2.1] at aV
      have bw:=ZH aV
      clear aV aH ap
      go_wp2_with fail
      refine bw.out.mono ?_
      rintro e wb ⟨rv,rfl,aM,aw⟩
      obtain ⟨rs,ra,rn,rc,rfl⟩:=aM.shape
      have kc:=(aw.block bo (ZL al.out.2.1)).trans al.out.2.1
      have bJ:=(aw.block bc (ZL al.out.2.2)).trans al.out.2.2
      obtain ⟨z0,z1⟩:=cells2 (ZR _ wb) kc
      have f0:=ZF kc 0
      have f1:=ZF kc 1
      have hB:=aD.out.trans (aw.mono aD.out.size)
      have HE:=ZH (ZN ((aM.sets (b:=bo) (ZL al.out.2.1) (.string rs) (.slice ra rn rc)).mono (B':=w.heap.size) aD.out.size) (ZN ((hB.setCell (p:=⟨bo,0,none⟩) bd.out.2.1 (.string rs)).setCell (p:=⟨bo,1,none⟩) bd.out.2.1 (.slice ra rn rc)) (ZN (two_sets kc (.string rs) (.slice ra rn rc)) ((off_sets bd.out.2.2.symm (.string rs) (.slice ra rn rc)).trans bJ))))
      clear aM aw kc bJ hB bw y0 y1 q0 q1
      go_wp2_with fail
      go_roundg (an-(k+1))
      case measure=>have:=HY.out.2.2.2.2; omega
      case rel=>exact ⟨k+1,by have:=HY.out.2.2.2.2; omega,by first | (congr 1; done) | (congr 1; exact IntWalk.wrap64_in ((k:Int)+1) (by have:=HY.out.2.2.2.2; omega)),ZH ⟨_,_,_,_,HE.out.2.2.1,HE.out.1⟩,ZH HE.out.2.2.2,ZH HE.out.2.1⟩
     ·have b7:((k:Int)<(an:Int))=False:=eq_false (by omega)
      obtain rfl:k=an:=by omega
      have bu:preF n (argG x) k=f:=by rw[HN.out.1]; exact a4.out.1.2.2.2.symm
      rw[bu] at ay
      obtain ⟨y0,y1⟩:=cells2 (ZR _ wr) aY
      obtain ⟨z0,z1⟩:=cells2 (ZR _ wr) ak.out
      have f0:=ZF ak.out 0
      have f1:=ZF ak.out 1
      have HE:=ZH (ZN (formin_off ay ak.out (by decide) (.string gs) (.slice ga gn gc)) ((aj.out.setCell (p:=⟨bc,0,none⟩) aC.out.2.1 (.string gs)).setCell (p:=⟨bc,1,none⟩) aC.out.2.1 (.slice ga gn gc)))
      clear bu ay aY ak aA aj
      go_wp2_with fail
      exact bodyPost_ret (v:=.tuple #[.agg #[.string gs,.slice ga gn gc],.bool true]) (by simp[results,Tryz.results33,go_sem,z0,z1]) rfl ⟨_,rfl,HE.out⟩
theorem mLinear_any {n:Nat} (hn:n≤900):∀(m:Nat) (x:GEx),dep x≤m→Over n x→Lite x→∀f,linOf n x=some f→∀(w:World) (v:Value),Glob w→ExIn w (raw x) v→Calls Tryz.prog 33 #[v] w (LinPost w f)
 | 0,x,hm,_,_=>by cases x<;>rw[dep] at hm<;>omega
 | m+1,x,hm,ho,hl=>fun f hf w v hg hx=>mLinear_step hn x (fun j hj g hg=>mLinear_any hn m _ (by have:=arg_dep hj; omega) (arg_over ho hj) (arg_lite hl hj) g hg) ho hl hf hg hx
theorem mNormal_lin {n:Nat} (hn:n≤900) {x:GEx} (ho:Over n x) (hl:Lite x) {f:LF} (hf:linOf n x=some f) {w:World} {v:Value} (hg:Glob w) (hx:ExIn w (raw x) v):Calls Tryz.prog 38 #[v] w fun e w'=>∃v',e=.returned v'∧ExIn w' (raw (.form f)) v'∧Below w.heap.size w w':=by
 obtain ⟨s0,s1,ta,tn,tc,aa,an,ac,rfl⟩:=ex_shape hx
 obtain ⟨o,aw⟩:∃x',x'=(raw x).op:=⟨_,rfl⟩
 rw[←aw] at hx⊢
 obtain ⟨wa,bx,bc,aq,ap,aA,ae,k0,k1⟩:=new_two w #[.int .i64 o,.string s0,.slice ta tn tc,.string s1,.slice aa an ac] #[.int .i64 0,.string ⟨#[]⟩,.slice none 0 0,.string ⟨#[]⟩,.slice none 0 0] 63 63
 have ak:=mLinear_any hn (dep x) x (Nat.le_refl _) ho hl f hf wa _ (hg.below ae) (hx.below ae)
 unfold LinPost at ak
 have ax:=ZH ak
 have au:=ZH ae
 have HK:=ZH k1
 have ad:=ZH (show w.heap.size≤bc∧bc<wa.heap.size from ⟨by omega,ZL k1⟩)
 have HW:=ZH (ZN aq (ZN ap aA))
 obtain ⟨x0,x1,x2,x3,x4⟩:=cells5 (ZR _ wa) k0
 clear aq ap aA ae k0 k1 hg hx aw ak ho hl hf
 go_enter Tryz.func38,Tryz.ntmps38
 go_upto_region 1 with fail
 rw[←HW.out.1,←HW.out.2.2,←HW.out.2.1]
 clear HW
 go_wp2_with fail
 refine ax.out.mono ?_
 rintro e w1 ⟨fv,rfl,ai,ar⟩
 obtain ⟨gs,ga,gn,gc,rfl⟩:=ai.shape
 have aB:=ZH ai
 have aj:=ZH ar
 clear ai ar x0 x1 x2 x3 x4 ax
 go_upto_region 3 with fail
 obtain ⟨w2,bf,am,ao,ah,kf⟩:=new_box w1 #[.string gs,.slice ga gn gc] 57
 rw[←am,←ao]
 have HF2:=ZH (aB.out.below ah)
 have al:=aj.out.trans (ah.mono aj.out.size)
 have av:=ZH ((al.block bc (ZL HK.out)).trans HK.out)
 have ay:=ZH (au.out.trans (al.mono au.out.size))
 obtain ⟨y0,y1⟩:=cells2 (ZR _ w2) kf
 clear am ao ah kf al aB aj
 go_wp2_with fail
 refine (mplain_val gs ga gn gc).mono ?_
 rintro e w3 ⟨rfl,af⟩
 have kc:=(af.block bc (ZL av.out)).trans av.out
 obtain ⟨z0,z1,z2,z3,z4⟩:=cells5 (ZR _ w3) kc
 have f0:=ZF kc 0
 have f1:=ZF kc 1
 have f2:=ZF kc 2
 have f3:=ZF kc 3
 have f4:=ZF kc 4
 have hB:=ay.out.trans (af.mono ay.out.size)
 have HBF:=ZH (below_five hB ad.out.1 (.int .i64 0) (.string gs) (.slice ga gn gc) (.string ⟨#[]⟩) (.slice none 0 0))
 obtain ⟨tv,e9,az⟩:=HF2.out.below af
 have ag:TermRow w3 wa.heap.size (.slice ga gn gc) (formTexts f)∧gs=⟨(numText f.c).toArray⟩:=by
  simp only[Value.agg.injEq] at e9
  have e9:=congrArg Array.toList e9
  simp only[List.cons.injEq,and_true,Value.string.injEq] at e9
  exact ⟨by rw[e9.2]; exact az,e9.1⟩
 have aC:=((((ag.1.set ad.out.2 0 (.int .i64 0)).set ad.out.2 1 (.string gs)).set ad.out.2 2 (.slice ga gn gc)).set ad.out.2 3 (.string ⟨#[]⟩)).set ad.out.2 4 (.slice none 0 0)
 have HX:=ZH (ZN ag.2 aC.reads.z)
 clear af hB y0 y1 az aC kc e9 tv ag
 go_wp2_with fail
 refine bodyPost_ret (v:=.agg #[.int .i64 0,.string gs,.slice ga gn gc,.string ⟨#[]⟩,.slice none 0 0]) (by simp[results,Tryz.results38,go_sem,z0,z1,z2,z3,z4]) rfl ⟨_,rfl,?_,HBF.out⟩
 rw[raw]
 have h:=ExIn.of (x:=.mk 0 (numText f.c) (zTerms (formTexts f)) [] []) HX.out.2 (exs_none _)
 rw[HX.out.1] at h⊢
 exact h
end Go.Proofs.YtdgimcmappmjdaaGreatDoor
