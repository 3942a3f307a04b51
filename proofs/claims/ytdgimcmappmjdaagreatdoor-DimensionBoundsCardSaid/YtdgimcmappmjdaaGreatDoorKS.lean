/- dimension.Value: the value of a form. -/
import Derived.Test.YtdgimcmappmjdaaGreatDoorK1
import Derived.Test.YtdgimcmappmjdaaGreatDoorKN
set_option linter.unusedSimpArgs false
set_option linter.unusedVariables false
set_option maxRecDepth 100000
namespace Go.Proofs.YtdgimcmappmjdaaGreatDoor
open List renaming setIfInBounds_toArray → zLa, set_cons_zero → zLb, set_cons_succ → zLc
open FlowR renaming putSel → zFp
open Act renaming put → zAp
open Nat renaming zero_add → zNz
open Flow.Steps renaming cons → zSc, nil → zSn
open FlowR.Step renaming of → zSo
open Go.RowKit Go.Num Go.Flow
set_option maxHeartbeats 8000000
set_option linter.unusedVariables false

def valueTo (c:List UInt8) (L:List (Nat×List UInt8)) (rs:List Rat) (k:Nat):Rat:=(L.take k).foldl (fun a p=>a+readVal p.2*rs.getD p.1 0) (readVal c)
theorem valueTo_succ {c:List UInt8} {L:List (Nat×List UInt8)} {rs:List Rat} {k:Nat} (h:k<L.length):valueTo c L rs (k+1)=valueTo c L rs k+readVal (L.getD k (0,[])).2*rs.getD (L.getD k (0,[])).1 0:=by
 unfold valueTo
 rw[List.take_add_one,List.getElem?_eq_getElem h,List.foldl_append,List.getD_eq_getElem?_getD,List.getElem?_eq_getElem h]
 rfl
theorem mValue_any {w:World} (hg:Glob w) {v:Value} {c:List UInt8} {L:List (Nat×List UInt8)} (hf:FormAt w v c L) (hL:L.length≤1000) {ar:Option Addr} {cr:Nat} {rs:List Rat} {K:Nat} (hr:RatsAt w ar cr rs K) (hK:2≤K) {S:Nat} (hc:c.length≤S) (hc0:readErr c 65536=0) (hS:S≤60000)
  (ht:∀j,j<L.length→(L.getD j (0,[])).1<rs.length∧(L.getD j (0,[])).2.length≤S∧readErr (L.getD j (0,[])).2 65536=0) (hb:(S+2)+(L.length+1)*(S+K+3)≤900000) :
  Calls Tryz.prog 29 #[v,.slice ar rs.length cr] w fun e w'=>∃v',e=.returned (.tuple #[v',.int .i64 0])∧RtIn w' v' (valueTo c L rs L.length) ((S+2)+L.length*(S+K+3))∧Below w.heap.size w w':=by
 obtain ⟨tv,rfl,ao,ca,rfl,a7,bg,a4⟩:=hf
 obtain ⟨n,hn⟩:∃n,n=L.length:=⟨_,rfl⟩
 obtain ⟨nr,az⟩:∃n,n=rs.length:=⟨_,rfl⟩
 obtain ⟨s,hs⟩:∃s:ByteArray,s=⟨c.toArray⟩:=⟨_,rfl⟩
 have aK:s.data.toList=c:=by rw[hs]
 obtain ⟨wa,ap⟩:∃wa,wa=(w.alloc (.cells #[.string s,.slice ao n ca] 57)).alloc (.cells #[.bool false,.slice none 0 0,.bool false,.slice none 0 0] 43):=⟨_,rfl⟩
 obtain ⟨bf,aS⟩:∃b,b=w.heap.size:=⟨_,rfl⟩
 obtain ⟨b4,aX⟩:∃b,b=w.heap.size+1:=⟨_,rfl⟩
 have aC:Below w.heap.size w wa:=by rw[ap]; exact ((ZR _ w).alloc (Nat.le_refl _) _).alloc (by simp) _
 obtain ⟨k0,k1⟩:=two_made w #[.string s,.slice ao n ca] #[.bool false,.slice none 0 0,.bool false,.slice none 0 0] 57 43
 rw[←ap,←aS] at k0
 rw[←ap,←aX] at k1
 have hcap:n≤ca∧ca≤9223372036854775807:=by rw[hn]; exact ⟨a7,bg⟩
 have bd:nr≤cr∧cr≤9223372036854775807:=by rw[az]; exact ⟨hr.1,hr.2.1⟩
 have bl:s.size≤4294967280:=by
  have h1:s.size=c.length:=by rw[hs]; simp[ByteArray.size]
  omega
 have HRD:=ZH (mread_any s bl (hg.below aC) (by rw[aK]; exact hc0))
 have aU:s.data.toList.length=c.length:=by rw[aK]
 have HSL:=ZH aK
 have HG:=ZH (hg.below aC)
 have HR:=ZH hr.2.2
 have HTC:=ZH a4
 have HT:=ZH ht
 have aB:=ZH aC
 have aN:=ZH k0
 have bh:=ZH k1
 have aF:=ZH (show bf≠b4∧w.heap.size≤bf∧w.heap.size≤b4 by omega)
 have HN:=ZH (ZN hn (ZN az (ZN hL (ZN hK (ZN hS (ZN hb hc))))))
 have HW:=ZH (ZN ap (ZN aS aX))
 rw[←hn,←az,←hs]
 clear ap aS aX aC k0 hg hr a7 bg a4 ht hL hK hS hb hc hc0 hs aK bl aU
 have s0:=ZI aN.out 0
 have s1:=ZI aN.out 1
 simp at s0 s1
 have hn1:n≤1000:=by have:=HN.out; omega
 clear hn az k1
 go_enter Tryz.func29,Tryz.ntmps29
 go_upto_region 1 with fail
 rw[←HW.out.1,←HW.out.2.2,←HW.out.2.1]
 clear HW
 go_wp2_with fail
 refine HRD.out.mono ?_
 rintro e w1 ⟨v1,rfl,aI,be⟩
 rw[HSL.out] at aI
 obtain ⟨p1,g1,f1,n1,p2,g2,f2,n2,rfl⟩:=rt_shape aI
 have bc:=ZH aI
 have aD:=ZH be
 clear aI be s0 s1
 go_upto_region 2 with fail
 obtain ⟨w2,aH⟩:∃x,x=w1.alloc (.cells #[.bool p1,.slice g1 f1 n1,.bool p2,.slice g2 f2 n2] 43):=⟨_,rfl⟩
 obtain ⟨bo,aG⟩:∃b,b=w1.heap.size:=⟨_,rfl⟩
 rw[←aH,←aG]
 have aT:Below w1.heap.size w1 w2:=by rw[aH]; exact (ZR _ w1).alloc (Nat.le_refl _) _
 have kb:w2.heap[bo]?=some (.cells #[.bool p1,.slice g1 f1 n1,.bool p2,.slice g2 f2 n2] 43 (0,0)):=by rw[aH,aG]; exact ZW w1 _
 have aZ:=ZH kb
 have av:=ZH (show RtIn w2 (.agg #[.bool p1,.slice g1 f1 n1,.bool p2,.slice g2 f2 n2]) (valueTo c L rs 0) (S+2+0*(S+K+3)) from by
  rw[Nat.zero_mul]
  exact (bc.out.below aT).more (by have:=HN.out; omega))
 have bj:=ZH (aD.out.trans (aT.mono aD.out.size))
 have aM:=ZH (show wa.heap.size≤bo by rw[aG]; exact aD.out.size)
 have aQ:=(bj.out.block bf (ZL aN.out)).trans aN.out
 have s0:=ZI aQ 0
 have s1:=ZI aQ 1
 simp at s0 s1
 clear aH aG aT kb aQ bc aD
 go_wp2_with fail
 clear s0 s1
 go_loopg [15] n (fun gk x wr=>∃k:Nat,k+gk=n∧x=.int .i64 k∧Hid (∃s1 a1 c1 l1 s2 a2 c2 l2,wr.heap[bo]?=some (.cells #[.bool s1,.slice a1 c1 l1,.bool s2,.slice a2 c2 l2] 43 (0,0))∧RtIn wr (.agg #[.bool s1,.slice a1 c1 l1,.bool s2,.slice a2 c2 l2]) (valueTo c L rs k) (S+2+k*(S+K+3)))∧Hid (Below wa.heap.size wa wr))
 case atStart=>exact ⟨0,by omega,rfl,ZH ⟨_,_,_,_,_,_,_,_,aZ.out,av.out⟩,bj⟩
 case round=>
  obtain ⟨k,hk,rfl,ai,ak⟩:=hrel
  obtain ⟨s1,a1,c1,l1,s2,a2,c2,l2,ah,aO⟩:=ai.out
  by_cases hlt:k<n
  ·have e1:((k:Int)<(n:Int))=True:=eq_true (by omega)
   obtain ⟨g,o,rfl,-,a6⟩:=HTC.out (by have:=HN.out.1; omega)
   have hx:=a6 k (by have:=HN.out.1; omega)
   have ag:=HT.out k (by have:=HN.out.1; omega)
   have am:=valueTo_succ (c:=c) (rs:=rs) (show k<L.length by have:=HN.out.1; omega)
   obtain ⟨⟨ti,tl⟩,bk⟩:∃x,x=L.getD k (0,[]):=⟨_,rfl⟩
   rw[←bk] at hx ag am
   simp only[] at hx ag am
   obtain ⟨tt,au⟩:∃s:ByteArray,s=⟨tl.toArray⟩:=⟨_,rfl⟩
   rw[←au] at hx
   obtain ⟨rb,ro,rfl,-,a9⟩:=HR.out (by omega)
   obtain ⟨q,hq⟩:∃x,x=rs.getD ti 0:=⟨_,rfl⟩
   obtain ⟨tq,aP⟩:∃x,x=readVal tl:=⟨_,rfl⟩
   have hy:=a9 ti ag.1
   rw[←hq] at hy am
   rw[←aP] at am
   have ac:=aB.out.trans (ak.out.mono aB.out.size)
   have x0:=ZJ ac hx.1
   have x1:=ZJ ac hx.2
   have aY:=fun (W:World) (hgW:Glob W)=>mread_any tt (by
    have h1:tt.size=tl.length:=by rw[au]; simp[ByteArray.size]
    have h2:=HN.out
    omega) hgW (by rw[au]; exact ag.2.2)
   rw[show tt.data.toList=tl by rw[au],←aP] at aY
   obtain ⟨t1,b1,d1,m1,t2,b2,d2,m2,r0,r1,r2,r3,a5⟩:=hy
   have HY:=ZH (ZN (ZJ ac r0) (ZN (ZJ ac r1) (ZN (ZJ ac r2) (ZN (ZJ ac r3) (a5.below ac)))))
   have a0:=ZH aY
   have bi:=ZH am
   have aq:=ZH (ZN hlt (ZN ag.1 ag.2.1))
   have aW:=ZH ah
   have aj:=ZH aO
   have hk0:(0:Int)≤(k:Int):=by omega
   have hk1:(k:Int)<(n:Int):=by omega
   have e2:((nr:Int)≤(ti:Int))=False:=eq_false (by have:=HN.out.2.1; have:=ag.1; omega)
   obtain ⟨va,ba⟩:∃x,x=valueTo c L rs k:=⟨_,rfl⟩
   rw[←ba] at aj bi
   clear a6 hx ag am bk au a9 hq aP ac aY r0 r1 r2 r3 a5 hlt ah aO ai ba
   go_upto_region 5 with fail
   obtain ⟨w3,aA⟩:∃x,x=wr.alloc (.cells #[.int .i64 (ti:Int),.string tt] 118):=⟨_,rfl⟩
   obtain ⟨bt,aR⟩:∃b,b=wr.heap.size:=⟨_,rfl⟩
   rw[←aA,←aR]
   have af:Below wr.heap.size wr w3:=by rw[aA]; exact (ZR _ wr).alloc (Nat.le_refl _) _
   have kt:w3.heap[bt]?=some (.cells #[.int .i64 (ti:Int),.string tt] 118 (0,0)):=by rw[aA,aR]; exact ZW wr _
   have aE:=ZH kt
   have HL3:=ZH af
   have aJ:=ZH (ak.out.trans (af.mono ak.out.size))
   have al:=ZH ((af.block bo (ZL aW.out)).trans aW.out)
   have ax:=ZH (aj.out.below af)
   have aw:=ZH (ZN (ZJ af HY.out.1) (ZN (ZJ af HY.out.2.1) (ZN (ZJ af HY.out.2.2.1) (ZN (ZJ af HY.out.2.2.2.1) (HY.out.2.2.2.2.below af)))))
   have ad:=ZH (ZR w3.heap.size w3)
   have y0:=ZI kt 0
   have y1:=ZI kt 1
   simp at y0 y1
   have bb:=ZH (show S+2+k*(S+K+3)+(S+2+K)+1≤900000 by
    have h1:=HN.out.2.2.2.2.2.1
    have h2:(k+1)*(S+K+3)≤(L.length+1)*(S+K+3):=Nat.mul_le_mul_right _ (by have h3:=aq.out.1; have h4:=HN.out.1; omega)
    rw[Nat.add_mul,Nat.one_mul] at h2
    omega)
   have ht0:(0:Int)≤(ti:Int):=by omega
   have ht1:(ti:Int)<(nr:Int):=by have:=HN.out.2.1; have:=aq.out.2.1; omega
   clear aA aR af kt x0 x1 hk0 hk1 aW aj HY HL3 ak
   go_upto_region 7 with fail
   clear y0 y1
   refine FlowR.wp_region_sel (fun a b=>Below a.heap.size a b) (fun a=>ZR _ a) (fun _ _ _ h k=>h.trans (k.mono h.size)) [0,1,2,3,4,5,6,7,8,9,10] [false,false,false,false,false,false,false,false,false,false,false,false] [true,true,true,true,true,true,true,true,true,true,true,false] (fun i9 v w'=>match i9 with
    | 0=>v=.agg #[.bool s1,.slice a1 c1 l1,.bool s2,.slice a2 c2 l2]
    | 1=>v=.pointer (some ⟨bt,1,none⟩)
    | 2=>v=.string tt
    | 3=>RtIn w' v tq (S+2)
    | 4=>v=.slice (some ⟨rb,ro,none⟩) nr cr
    | 5=>v=.pointer (some ⟨bt,0,none⟩)
    | 6=>v=.int .i64 (ti:Int)
    | 7=>v=.pointer (some ⟨rb,ro+ti*4,none⟩)
    | 8=>v=.agg #[.bool t1,.slice b1 d1 m1,.bool t2,.slice b2 d2 m2]
    | 9=>RtIn w' v (tq*q) (S+2+K)
    | _=>RtIn w' v (va+tq*q) (S+2+k*(S+K+3)+(S+2+K)+1)) rfl rfl (by kernel_rfl) (by kernel_rfl) (by kernel_rfl) (by kernel_rfl) ?st ?_ ?_
   case st=>
    intro i9 v u1 u2 h hb
    match i9 with
    | 0 | 1 | 2 | 4 | 5 | 6 | 7 | 8=>exact h
    | 3 | 9 | 10 | _+11=>exact RtIn.below h hb
   refine zSc (zSo rfl ?s0) (zSc (zSo rfl ?s1) (zSc (zSo rfl ?s2) (zSc (zSo rfl ?s3) (zSc (zSo rfl ?s4) (zSc (zSo rfl ?s5) (zSc (zSo rfl ?s6) (zSc (zSo rfl ?s7) (zSc (zSo rfl ?s8) (zSc (zSo rfl ?s9) (zSc (zSo rfl ?s10) zSn))))))))))
   case s0=>
    intro xs w' hb hT K9 aa
    clear hT
    simp only[zFp,zAp,zLa,zLb,zLc,Nat.reduceAdd,zNz] at aa⊢
    have hw:=Flow.hwD ad.out hb
    obtain ⟨y0,y1,y2,y3⟩:=cells4 hw al.out
    go_simp
    exact aa _ _ (ZR _ _) rfl
   case s1 | s4 | s5=>
    intro xs w' hb hT K9 aa
    clear hT
    simp only[zFp,zAp,zLa,zLb,zLc,Nat.reduceAdd,zNz] at aa⊢
    have hw:=Flow.hwD ad.out hb
    go_simp
    exact aa _ _ (ZR _ _) rfl
   case s2=>
    intro xs w' hb hT K9 aa
    have h1:(xs 1)=.pointer (some ⟨bt,1,none⟩):=hT 1 (by kernel_rfl)
    clear hT
    simp only[zFp,zAp,zLa,zLb,zLc,Nat.reduceAdd,zNz] at aa⊢
    have hw:=Flow.hwD ad.out hb
    have kb:=(hw.block bt (ZL aE.out)).trans aE.out
    have y0:=ZI kb 1
    clear kb
    simp at y0
    (try simp only[h1] at aa)
    go_simp
    exact aa _ _ (ZR _ _) rfl
   case s3=>
    intro xs w' hb hT K9 aa
    have h2:(xs 2)=.string tt:=hT 2 (by kernel_rfl)
    clear hT
    simp only[zFp,zAp,zLa,zLb,zLc,Nat.reduceAdd,zNz] at aa⊢
    have hw:=Flow.hwD ad.out hb
    (try simp only[h2] at aa)
    go_simp
    go_at_call 73
    refine (a0.out w' (HG.out.below (aJ.out.trans (hw.mono aJ.out.size)))).mono ?_
    rintro e w3 ⟨v3,rfl,an,ay⟩
    exact aa _ _ ay (an.more (by have:=aq.out.2.2; omega))
   case s6=>
    intro xs w' hb hT K9 aa
    have h5:(xs 5)=.pointer (some ⟨bt,0,none⟩):=hT 5 (by kernel_rfl)
    clear hT
    simp only[zFp,zAp,zLa,zLb,zLc,Nat.reduceAdd,zNz] at aa⊢
    have hw:=Flow.hwD ad.out hb
    have kb:=(hw.block bt (ZL aE.out)).trans aE.out
    have y0:=ZI kb 0
    clear kb
    simp at y0
    (try simp only[h5] at aa)
    go_simp
    exact aa _ _ (ZR _ _) rfl
   case s7=>
    intro xs w' hb hT K9 aa
    have h4:(xs 4)=.slice (some ⟨rb,ro,none⟩) nr cr:=hT 4 (by kernel_rfl)
    have h6:(xs 6)=.int .i64 (ti:Int):=hT 6 (by kernel_rfl)
    clear hT
    simp only[zFp,zAp,zLa,zLb,zLc,Nat.reduceAdd,zNz] at aa⊢
    have hw:=Flow.hwD ad.out hb
    (try simp only[h4] at aa)
    (try simp only[h6] at aa)
    go_simp
    exact aa _ _ (ZR _ _) rfl
   case s8=>
    intro xs w' hb hT K9 aa
    have h7:(xs 7)=.pointer (some ⟨rb,ro+ti*4,none⟩):=hT 7 (by kernel_rfl)
    clear hT
    simp only[zFp,zAp,zLa,zLb,zLc,Nat.reduceAdd,zNz] at aa⊢
    have hw:=Flow.hwD ad.out hb
    (try simp only[h7] at aa)
    have y0:=ZJ hw aw.out.1
    have y1:=ZJ hw aw.out.2.1
    have y2:=ZJ hw aw.out.2.2.1
    have y3:=ZJ hw aw.out.2.2.2.1
    go_simp
    exact aa _ _ (ZR _ _) rfl
   case s9=>
    intro xs w' hb hT K9 aa
    have h3:RtIn w' (xs 3) tq (S+2):=hT 3 (by kernel_rfl)
    have h8:(xs 8)=.agg #[.bool t1,.slice b1 d1 m1,.bool t2,.slice b2 d2 m2]:=hT 8 (by kernel_rfl)
    clear hT
    simp only[zFp,zAp,zLa,zLb,zLc,Nat.reduceAdd,zNz] at aa⊢
    have hw:=Flow.hwD ad.out hb
    (try simp only[h8] at aa)
    go_simp
    go_at_call 74
    refine (ratMul_any h3 (aw.out.2.2.2.2.below hw) (by omega) HN.out.2.2.2.1 (by have:=bb.out; omega)).mono ?_
    rintro e w3 ⟨v3,rfl,an,ay⟩
    exact aa _ _ ay an
   case s10=>
    intro xs w' hb hT K9 aa
    have h0:(xs 0)=.agg #[.bool s1,.slice a1 c1 l1,.bool s2,.slice a2 c2 l2]:=hT 0 (by kernel_rfl)
    have h9:RtIn w' (xs 9) (tq*q) (S+2+K):=hT 9 (by kernel_rfl)
    clear hT
    simp only[zFp,zAp,zLa,zLb,zLc,Nat.reduceAdd,zNz] at aa⊢
    have hw:=Flow.hwD ad.out hb
    (try simp only[h0] at aa)
    go_simp
    go_at_call 79
    refine (ratAdd_any (ax.out.below hw) h9 (by omega) (by omega) bb.out).mono ?_
    rintro e w3 ⟨v3,rfl,an,ay⟩
    exact aa _ _ ay an
   intro xs w' hb hT
   have hw:=Flow.hwD ad.out hb
   have aL:RtIn w' (xs 10) (va+tq*q) (S+2+k*(S+K+3)+(S+2+K)+1):=hT 10 (by rfl)
   clear hT
   simp only[zFp,zAp,zLa,zLb,zLc,Nat.reduceAdd,zNz,FlowR.restL,FlowR.orM,Bool.false_or]
   obtain ⟨a3,g3,i3,j3,aV,g4,i4,j4,e9⟩:=rt_shape aL
   rw[e9] at aL
   simp only[e9]
   clear e9
   have k9:=(hw.block bo (ZL al.out)).trans al.out
   have x0:=ZI k9 0
   have x1:=ZI k9 1
   have x2:=ZI k9 2
   have x3:=ZI k9 3
   have f0:=ZF k9 0
   have f1':=ZF k9 1
   have f2':=ZF k9 2
   have f3:=ZF k9 3
   simp at x0 x1 x2 x3
   have hd:=aL.but (nodig4 k9) (But.set4 (b:=bo) w' (.bool a3) (.slice g3 i3 j3) (.bool aV) (.slice g4 i4 j4))
   have a8:=four_set k9 (.bool a3) (.slice g3 i3 j3) (.bool aV) (.slice g4 i4 j4)
   have bm:=(((((aJ.out.trans (hw.mono aJ.out.size)).setCell (p:=⟨bo,0,none⟩) aM.out (.bool a3)).setCell (p:=⟨bo,1,none⟩) aM.out (.slice g3 i3 j3)).setCell (p:=⟨bo,2,none⟩) aM.out (.bool aV)).setCell (p:=⟨bo,3,none⟩) aM.out (.slice g4 i4 j4))
   have HF:=ZH (ZN a8 (ZN hd bm))
   clear aL k9 hd a8 bm hw hb
   go_wp2_with fail
   go_roundg (n-(k+1))
   case measure=>have:=aq.out.1; omega
   case rel=>exact ⟨k+1,by have:=aq.out.1; omega,by congr 1,ZH ⟨_,_,_,_,_,_,_,_,HF.out.1,by rw[bi.out,show S+2+(k+1)*(S+K+3)=S+2+k*(S+K+3)+(S+2+K)+1 by rw[Nat.add_mul,Nat.one_mul]; omega]; exact HF.out.2.1⟩,ZH HF.out.2.2⟩
  ·have e1:((k:Int)<(n:Int))=False:=eq_false (by omega)
   obtain rfl:k=n:=by omega
   have z0:=ZI ah 0
   have z1:=ZI ah 1
   have z2:=ZI ah 2
   have z3:=ZI ah 3
   have ae:=(ak.out.block b4 (ZL bh.out)).trans bh.out
   have o0:=ZI ae 0
   have o1:=ZI ae 1
   have o2:=ZI ae 2
   have o3:=ZI ae 3
   have f0:=ZF ae 0
   have f1':=ZF ae 1
   have f2':=ZF ae 2
   have f3:=ZF ae 3
   simp at z0 z1 z2 z3 o0 o1 o2 o3
   have hB:=aB.out.trans (ak.out.mono aB.out.size)
   have HF:=ZH ((((hB.setCell (p:=⟨b4,0,none⟩) aF.out.2.2 (.bool s1)).setCell (p:=⟨b4,1,none⟩) aF.out.2.2 (.slice a1 c1 l1)).setCell (p:=⟨b4,2,none⟩) aF.out.2.2 (.bool s2)).setCell (p:=⟨b4,3,none⟩) aF.out.2.2 (.slice a2 c2 l2))
   have HI:=ZH (aO.but (nodig4 ae) (But.set4 (b:=b4) wr (.bool s1) (.slice a1 c1 l1) (.bool s2) (.slice a2 c2 l2)))
   clear hB ae ah aO ai ak
   go_wp2_with fail
   exact bodyPost_ret (v:=.tuple #[.agg #[.bool s1,.slice a1 c1 l1,.bool s2,.slice a2 c2 l2],.int .i64 0]) (by simp[results,Tryz.results29,go_sem,o0,o1,o2,o3]) rfl ⟨_,rfl,HI.out,HF.out⟩
theorem mValue_short {w:World} (hg:Glob w) {v:Value} {c:List UInt8} {L:List (Nat×List UInt8)} (hf:FormAt w v c L) (hL:L.length≤1000) {ar:Option Addr} {cr:Nat} {rs:List Rat} {K:Nat} (hr:RatsAt w ar cr rs K) (hK:2≤K) {S:Nat} (hc:c.length≤S) (hc0:readErr c 65536=0) (hS:S≤60000)
  (hsh:∃j,j<L.length∧rs.length≤(L.getD j (0,[])).1) (ht:∀j,j<L.length→(L.getD j (0,[])).2.length≤S∧readErr (L.getD j (0,[])).2 65536=0) (hb:(S+2)+(L.length+1)*(S+K+3)≤900000) :
  Calls Tryz.prog 29 #[v,.slice ar rs.length cr] w fun e w'=>e=.returned (.tuple #[.agg #[.bool false,.slice none 0 0,.bool false,.slice none 0 0],.int .i64 13])∧Below w.heap.size w w':=by
 obtain ⟨tv,rfl,ao,ca,rfl,bd,bn,a9⟩:=hf
 obtain ⟨n,hn⟩:∃n,n=L.length:=⟨_,rfl⟩
 obtain ⟨nr,aB⟩:∃n,n=rs.length:=⟨_,rfl⟩
 obtain ⟨s,hs⟩:∃s:ByteArray,s=⟨c.toArray⟩:=⟨_,rfl⟩
 have aM:s.data.toList=c:=by rw[hs]
 obtain ⟨wa,aw⟩:∃wa,wa=(w.alloc (.cells #[.string s,.slice ao n ca] 57)).alloc (.cells #[.bool false,.slice none 0 0,.bool false,.slice none 0 0] 43):=⟨_,rfl⟩
 obtain ⟨bf,aT⟩:∃b,b=w.heap.size:=⟨_,rfl⟩
 obtain ⟨b4,a0⟩:∃b,b=w.heap.size+1:=⟨_,rfl⟩
 have aC:Below w.heap.size w wa:=by rw[aw]; exact ((ZR _ w).alloc (Nat.le_refl _) _).alloc (by simp) _
 obtain ⟨k0,k1⟩:=two_made w #[.string s,.slice ao n ca] #[.bool false,.slice none 0 0,.bool false,.slice none 0 0] 57 43
 rw[←aw,←aT] at k0
 rw[←aw,←a0] at k1
 have hcap:n≤ca∧ca≤9223372036854775807:=by rw[hn]; exact ⟨bd,bn⟩
 have bl:nr≤cr∧cr≤9223372036854775807:=by rw[aB]; exact ⟨hr.1,hr.2.1⟩
 have bs:s.size≤4294967280:=by
  have h1:s.size=c.length:=by rw[hs]; simp[ByteArray.size]
  omega
 have HRD:=ZH (mread_any s bs (hg.below aC) (by rw[aM]; exact hc0))
 have aX:s.data.toList.length=c.length:=by rw[aM]
 have HSL:=ZH aM
 have HG:=ZH (hg.below aC)
 have HR:=ZH hr.2.2
 have HTC:=ZH a9
 have HT:=ZH ht
 have HSH:=ZH hsh
 have ap:=ZH aC
 have aQ:=ZH k0
 have bp:=ZH k1
 have aG:=ZH (show bf≠b4∧w.heap.size≤bf∧w.heap.size≤b4 by omega)
 have HN:=ZH (ZN hn (ZN aB (ZN hL (ZN hK (ZN hS (ZN hb hc))))))
 have HW:=ZH (ZN aw (ZN aT a0))
 rw[←hn,←aB,←hs]
 clear hsh aw aT a0 aC k0 hg hr bd bn a9 ht hL hK hS hb hc hc0 hs aM bs aX
 have s0:=ZI aQ.out 0
 have s1:=ZI aQ.out 1
 simp at s0 s1
 have hn1:n≤1000:=by have:=HN.out; omega
 clear hn aB k1
 go_enter Tryz.func29,Tryz.ntmps29
 go_upto_region 1 with fail
 rw[←HW.out.1,←HW.out.2.2,←HW.out.2.1]
 clear HW
 go_wp2_with fail
 refine HRD.out.mono ?_
 rintro e w1 ⟨v1,rfl,aK,bm⟩
 rw[HSL.out] at aK
 obtain ⟨p1,g1,f1,n1,p2,g2,f2,n2,rfl⟩:=rt_shape aK
 have bj:=ZH aK
 have aD:=ZH bm
 clear aK bm s0 s1
 go_upto_region 2 with fail
 obtain ⟨w2,aJ⟩:∃x,x=w1.alloc (.cells #[.bool p1,.slice g1 f1 n1,.bool p2,.slice g2 f2 n2] 43):=⟨_,rfl⟩
 obtain ⟨bo,aI⟩:∃b,b=w1.heap.size:=⟨_,rfl⟩
 rw[←aJ,←aI]
 have aU:Below w1.heap.size w1 w2:=by rw[aJ]; exact (ZR _ w1).alloc (Nat.le_refl _) _
 have kb:w2.heap[bo]?=some (.cells #[.bool p1,.slice g1 f1 n1,.bool p2,.slice g2 f2 n2] 43 (0,0)):=by rw[aJ,aI]; exact ZW w1 _
 have a4:=ZH kb
 have ay:=ZH (show RtIn w2 (.agg #[.bool p1,.slice g1 f1 n1,.bool p2,.slice g2 f2 n2]) (valueTo c L rs 0) (S+2+0*(S+K+3)) from by
  rw[Nat.zero_mul]
  exact (bj.out.below aU).more (by have:=HN.out; omega))
 have br:=ZH (aD.out.trans (aU.mono aD.out.size))
 have aO:=ZH (show wa.heap.size≤bo by rw[aI]; exact aD.out.size)
 have aS:=(br.out.block bf (ZL aQ.out)).trans aQ.out
 have s0:=ZI aS 0
 have s1:=ZI aS 1
 simp at s0 s1
 clear aJ aI aU kb aS bj aD
 go_wp2_with fail
 clear s0 s1
 go_loopg [15] n (fun gk x wr=>∃k:Nat,k+gk=n∧x=.int .i64 k∧Hid (∃s1 a1 c1 l1 s2 a2 c2 l2,wr.heap[bo]?=some (.cells #[.bool s1,.slice a1 c1 l1,.bool s2,.slice a2 c2 l2] 43 (0,0))∧RtIn wr (.agg #[.bool s1,.slice a1 c1 l1,.bool s2,.slice a2 c2 l2]) (valueTo c L rs k) (S+2+k*(S+K+3)))∧Hid (∀j,j<k→(L.getD j (0,[])).1<rs.length)∧Hid (Below wa.heap.size wa wr))
 case atStart=>exact ⟨0,by omega,rfl,ZH ⟨_,_,_,_,_,_,_,_,a4.out,ay.out⟩,ZH (fun j hj=>by omega),br⟩
 case round=>
  obtain ⟨k,hk,rfl,ai,aH,al⟩:=hrel
  obtain ⟨s1,a1,c1,l1,s2,a2,c2,l2,aW,a8⟩:=ai.out
  by_cases hlt:k<n
  ·have e1:((k:Int)<(n:Int))=True:=eq_true (by omega)
   obtain ⟨g,o,rfl,-,aV⟩:=HTC.out (by have:=HN.out.1; omega)
   have hx:=aV k (by have:=HN.out.1; omega)
   have an:=HT.out k (by have:=HN.out.1; omega)
   have aj:=valueTo_succ (c:=c) (rs:=rs) (show k<L.length by have:=HN.out.1; omega)
   obtain ⟨⟨ti,tl⟩,aP⟩:∃x,x=L.getD k (0,[]):=⟨_,rfl⟩
   rw[←aP] at hx an aj
   simp only[] at hx an aj
   obtain ⟨tt,aq⟩:∃s:ByteArray,s=⟨tl.toArray⟩:=⟨_,rfl⟩
   rw[←aq] at hx
   have a5:(L.getD k (0,[])).1=ti:=by rw[←aP]
   by_cases hti:nr≤ti
   ·have e2:((nr:Int)≤(ti:Int))=True:=eq_true (by omega)
    have ac:=ap.out.trans (al.out.mono ap.out.size)
    have x0:=ZJ ac hx.1
    have x1:=ZJ ac hx.2
    have bb:(0:Int)≤(k:Int):=by omega
    have bk:(k:Int)<(n:Int):=by omega
    have bc:=ZH al.out
    clear aV hx an aj aP aq a5 hti al ac hlt aW a8 ai aH
    go_upto_region 5 with fail
    obtain ⟨w3,af⟩:∃x,x=wr.alloc (.cells #[.int .i64 (ti:Int),.string tt] 118):=⟨_,rfl⟩
    obtain ⟨bt,ah⟩:∃b,b=wr.heap.size:=⟨_,rfl⟩
    rw[←af,←ah]
    have ad:Below wr.heap.size wr w3:=by rw[af]; exact (ZR _ wr).alloc (Nat.le_refl _) _
    have kt:w3.heap[bt]?=some (.cells #[.int .i64 (ti:Int),.string tt] 118 (0,0)):=by rw[af,ah]; exact ZW wr _
    have y0:=ZI kt 0
    simp at y0
    have ag:=bc.out.trans (ad.mono bc.out.size)
    have au:=(ag.block b4 (ZL bp.out)).trans bp.out
    obtain ⟨o0,o1,o2,o3⟩:=cells4 (ZR _ w3) au
    have f0:=ZF au 0
    have f1':=ZF au 1
    have f2':=ZF au 2
    have f3:=ZF au 3
    have hB:=ap.out.trans (ag.mono ap.out.size)
    have HF:=ZH ((((hB.setCell (p:=⟨b4,0,none⟩) aG.out.2.2 (.bool false)).setCell (p:=⟨b4,1,none⟩) aG.out.2.2 (.slice none 0 0)).setCell (p:=⟨b4,2,none⟩) aG.out.2.2 (.bool false)).setCell (p:=⟨b4,3,none⟩) aG.out.2.2 (.slice none 0 0))
    clear af ah ad kt ag au hB x0 x1
    go_wp2_with fail
    exact bodyPost_ret (v:=.tuple #[.agg #[.bool false,.slice none 0 0,.bool false,.slice none 0 0],.int .i64 13]) (by simp[results,Tryz.results29,go_sem,o0,o1,o2,o3]) rfl ⟨rfl,HF.out⟩
   have aF:ti<rs.length:=by have:=HN.out.2.1; omega
   have HNO:=ZH (show ∀j,j<k+1→(L.getD j (0,[])).1<rs.length from fun j hj=>by
    rcases Nat.lt_or_eq_of_le (Nat.le_of_lt_succ hj) with h | h
    ·exact aH.out j h
    ·rw[h,a5]; exact aF)
   obtain ⟨rb,ro,rfl,-,bg⟩:=HR.out (by omega)
   obtain ⟨q,hq⟩:∃x,x=rs.getD ti 0:=⟨_,rfl⟩
   obtain ⟨tq,aR⟩:∃x,x=readVal tl:=⟨_,rfl⟩
   have hy:=bg ti aF
   rw[←hq] at hy aj
   rw[←aR] at aj
   have ac:=ap.out.trans (al.out.mono ap.out.size)
   have x0:=ZJ ac hx.1
   have x1:=ZJ ac hx.2
   have a3:=fun (W:World) (hgW:Glob W)=>mread_any tt (by
    have h1:tt.size=tl.length:=by rw[aq]; simp[ByteArray.size]
    have h2:=HN.out
    omega) hgW (by rw[aq]; exact an.2)
   rw[show tt.data.toList=tl by rw[aq],←aR] at a3
   obtain ⟨t1,b1,d1,m1,t2,b2,d2,m2,r0,r1,r2,r3,ba⟩:=hy
   have HY:=ZH (ZN (ZJ ac r0) (ZN (ZJ ac r1) (ZN (ZJ ac r2) (ZN (ZJ ac r3) (ba.below ac)))))
   have a6:=ZH a3
   have bq:=ZH aj
   have ax:=ZH (ZN hlt (ZN aF an.1))
   have aZ:=ZH aW
   have ak:=ZH a8
   have bb:(0:Int)≤(k:Int):=by omega
   have bk:(k:Int)<(n:Int):=by omega
   have e2:((nr:Int)≤(ti:Int))=False:=eq_false (by have:=HN.out.2.1; omega)
   obtain ⟨va,bh⟩:∃x,x=valueTo c L rs k:=⟨_,rfl⟩
   rw[←bh] at ak bq
   clear aF a5 hti aH aV hx an aj aP aq bg hq aR ac a3 r0 r1 r2 r3 ba hlt aW a8 ai bh
   go_upto_region 5 with fail
   obtain ⟨w3,af⟩:∃x,x=wr.alloc (.cells #[.int .i64 (ti:Int),.string tt] 118):=⟨_,rfl⟩
   obtain ⟨bt,ah⟩:∃b,b=wr.heap.size:=⟨_,rfl⟩
   rw[←af,←ah]
   have ad:Below wr.heap.size wr w3:=by rw[af]; exact (ZR _ wr).alloc (Nat.le_refl _) _
   have kt:w3.heap[bt]?=some (.cells #[.int .i64 (ti:Int),.string tt] 118 (0,0)):=by rw[af,ah]; exact ZW wr _
   have aE:=ZH kt
   have HL3:=ZH ad
   have aL:=ZH (al.out.trans (ad.mono al.out.size))
   have am:=ZH ((ad.block bo (ZL aZ.out)).trans aZ.out)
   have aA:=ZH (ak.out.below ad)
   have az:=ZH (ZN (ZJ ad HY.out.1) (ZN (ZJ ad HY.out.2.1) (ZN (ZJ ad HY.out.2.2.1) (ZN (ZJ ad HY.out.2.2.2.1) (HY.out.2.2.2.2.below ad)))))
   have ae:=ZH (ZR w3.heap.size w3)
   have y0:=ZI kt 0
   have y1:=ZI kt 1
   simp at y0 y1
   have bi:=ZH (show S+2+k*(S+K+3)+(S+2+K)+1≤900000 by
    have h1:=HN.out.2.2.2.2.2.1
    have h2:(k+1)*(S+K+3)≤(L.length+1)*(S+K+3):=Nat.mul_le_mul_right _ (by have h3:=ax.out.1; have h4:=HN.out.1; omega)
    rw[Nat.add_mul,Nat.one_mul] at h2
    omega)
   have ht0:(0:Int)≤(ti:Int):=by omega
   have ht1:(ti:Int)<(nr:Int):=by have:=HN.out.2.1; have:=ax.out.2.1; omega
   clear af ah ad kt x0 x1 bb bk aZ ak HY HL3 al
   go_upto_region 7 with fail
   clear y0 y1
   refine FlowR.wp_region_sel (fun a b=>Below a.heap.size a b) (fun a=>ZR _ a) (fun _ _ _ h k=>h.trans (k.mono h.size)) [0,1,2,3,4,5,6,7,8,9,10] [false,false,false,false,false,false,false,false,false,false,false,false] [true,true,true,true,true,true,true,true,true,true,true,false] (fun i9 v w'=>match i9 with
    | 0=>v=.agg #[.bool s1,.slice a1 c1 l1,.bool s2,.slice a2 c2 l2]
    | 1=>v=.pointer (some ⟨bt,1,none⟩)
    | 2=>v=.string tt
    | 3=>RtIn w' v tq (S+2)
    | 4=>v=.slice (some ⟨rb,ro,none⟩) nr cr
    | 5=>v=.pointer (some ⟨bt,0,none⟩)
    | 6=>v=.int .i64 (ti:Int)
    | 7=>v=.pointer (some ⟨rb,ro+ti*4,none⟩)
    | 8=>v=.agg #[.bool t1,.slice b1 d1 m1,.bool t2,.slice b2 d2 m2]
    | 9=>RtIn w' v (tq*q) (S+2+K)
    | _=>RtIn w' v (va+tq*q) (S+2+k*(S+K+3)+(S+2+K)+1)) rfl rfl (by kernel_rfl) (by kernel_rfl) (by kernel_rfl) (by kernel_rfl) ?st ?steps ?_
   case st=>
    intro i9 v u1 u2 h hb
    match i9 with
    | 0 | 1 | 2 | 4 | 5 | 6 | 7 | 8=>exact h
    | 3 | 9 | 10 | _+11=>exact RtIn.below h hb
   case steps=>
    refine zSc (zSo rfl ?s0) (zSc (zSo rfl ?s1) (zSc (zSo rfl ?s2) (zSc (zSo rfl ?s3) (zSc (zSo rfl ?s4) (zSc (zSo rfl ?s5) (zSc (zSo rfl ?s6) (zSc (zSo rfl ?s7) (zSc (zSo rfl ?s8) (zSc (zSo rfl ?s9) (zSc (zSo rfl ?s10) zSn))))))))))
    case s0=>
     intro xs w' hb hT K9 aa
     clear hT
     simp only[zFp,zAp,zLa,zLb,zLc,Nat.reduceAdd,zNz] at aa⊢
     have hw:=Flow.hwD ae.out hb
     obtain ⟨y0,y1,y2,y3⟩:=cells4 hw am.out
     go_simp
     exact aa _ _ (ZR _ _) rfl
    case s1 | s4 | s5=>
     intro xs w' hb hT K9 aa
     clear hT
     simp only[zFp,zAp,zLa,zLb,zLc,Nat.reduceAdd,zNz] at aa⊢
     have hw:=Flow.hwD ae.out hb
     go_simp
     exact aa _ _ (ZR _ _) rfl
    case s2=>
     intro xs w' hb hT K9 aa
     have h1:(xs 1)=.pointer (some ⟨bt,1,none⟩):=hT 1 (by kernel_rfl)
     clear hT
     simp only[zFp,zAp,zLa,zLb,zLc,Nat.reduceAdd,zNz] at aa⊢
     have hw:=Flow.hwD ae.out hb
     have kb:=(hw.block bt (ZL aE.out)).trans aE.out
     have y0:=ZI kb 1
     clear kb
     simp at y0
     (try simp only[h1] at aa)
     go_simp
     exact aa _ _ (ZR _ _) rfl
    case s3=>
     intro xs w' hb hT K9 aa
     have h2:(xs 2)=.string tt:=hT 2 (by kernel_rfl)
     clear hT
     simp only[zFp,zAp,zLa,zLb,zLc,Nat.reduceAdd,zNz] at aa⊢
     have hw:=Flow.hwD ae.out hb
     (try simp only[h2] at aa)
     go_simp
     go_at_call 73
     refine (a6.out w' (HG.out.below (aL.out.trans (hw.mono aL.out.size)))).mono ?_
     rintro e w3 ⟨v3,rfl,av,ag⟩
     exact aa _ _ ag (av.more (by have:=ax.out.2.2; omega))
    case s6=>
     intro xs w' hb hT K9 aa
     have h5:(xs 5)=.pointer (some ⟨bt,0,none⟩):=hT 5 (by kernel_rfl)
     clear hT
     simp only[zFp,zAp,zLa,zLb,zLc,Nat.reduceAdd,zNz] at aa⊢
     have hw:=Flow.hwD ae.out hb
     have kb:=(hw.block bt (ZL aE.out)).trans aE.out
     have y0:=ZI kb 0
     clear kb
     simp at y0
     (try simp only[h5] at aa)
     go_simp
     exact aa _ _ (ZR _ _) rfl
    case s7=>
     intro xs w' hb hT K9 aa
     have h4:(xs 4)=.slice (some ⟨rb,ro,none⟩) nr cr:=hT 4 (by kernel_rfl)
     have h6:(xs 6)=.int .i64 (ti:Int):=hT 6 (by kernel_rfl)
     clear hT
     simp only[zFp,zAp,zLa,zLb,zLc,Nat.reduceAdd,zNz] at aa⊢
     have hw:=Flow.hwD ae.out hb
     (try simp only[h4] at aa)
     (try simp only[h6] at aa)
     go_simp
     exact aa _ _ (ZR _ _) rfl
    case s8=>
     intro xs w' hb hT K9 aa
     have h7:(xs 7)=.pointer (some ⟨rb,ro+ti*4,none⟩):=hT 7 (by kernel_rfl)
     clear hT
     simp only[zFp,zAp,zLa,zLb,zLc,Nat.reduceAdd,zNz] at aa⊢
     have hw:=Flow.hwD ae.out hb
     (try simp only[h7] at aa)
     have y0:=ZJ hw az.out.1
     have y1:=ZJ hw az.out.2.1
     have y2:=ZJ hw az.out.2.2.1
     have y3:=ZJ hw az.out.2.2.2.1
     go_simp
     exact aa _ _ (ZR _ _) rfl
    case s9=>
     intro xs w' hb hT K9 aa
     have h3:RtIn w' (xs 3) tq (S+2):=hT 3 (by kernel_rfl)
     have h8:(xs 8)=.agg #[.bool t1,.slice b1 d1 m1,.bool t2,.slice b2 d2 m2]:=hT 8 (by kernel_rfl)
     clear hT
     simp only[zFp,zAp,zLa,zLb,zLc,Nat.reduceAdd,zNz] at aa⊢
     have hw:=Flow.hwD ae.out hb
     (try simp only[h8] at aa)
     go_simp
     go_at_call 74
     refine (ratMul_any h3 (az.out.2.2.2.2.below hw) (by omega) HN.out.2.2.2.1 (by have:=bi.out; omega)).mono ?_
     rintro e w3 ⟨v3,rfl,av,ag⟩
     exact aa _ _ ag av
    case s10=>
     intro xs w' hb hT K9 aa
     have h0:(xs 0)=.agg #[.bool s1,.slice a1 c1 l1,.bool s2,.slice a2 c2 l2]:=hT 0 (by kernel_rfl)
     have h9:RtIn w' (xs 9) (tq*q) (S+2+K):=hT 9 (by kernel_rfl)
     clear hT
     simp only[zFp,zAp,zLa,zLb,zLc,Nat.reduceAdd,zNz] at aa⊢
     have hw:=Flow.hwD ae.out hb
     (try simp only[h0] at aa)
     go_simp
     go_at_call 79
     refine (ratAdd_any (aA.out.below hw) h9 (by omega) (by omega) bi.out).mono ?_
     rintro e w3 ⟨v3,rfl,av,ag⟩
     exact aa _ _ ag av
   intro xs w' hb hT
   have hw:=Flow.hwD ae.out hb
   have aN:RtIn w' (xs 10) (va+tq*q) (S+2+k*(S+K+3)+(S+2+K)+1):=hT 10 (by rfl)
   clear hT
   simp only[zFp,zAp,zLa,zLb,zLc,Nat.reduceAdd,zNz,FlowR.restL,FlowR.orM,Bool.false_or]
   obtain ⟨a7,g3,i3,j3,aY,g4,i4,j4,e9⟩:=rt_shape aN
   rw[e9] at aN
   simp only[e9]
   clear e9
   have k9:=(hw.block bo (ZL am.out)).trans am.out
   have x0:=ZI k9 0
   have x1:=ZI k9 1
   have x2:=ZI k9 2
   have x3:=ZI k9 3
   have f0:=ZF k9 0
   have f1':=ZF k9 1
   have f2':=ZF k9 2
   have f3:=ZF k9 3
   simp at x0 x1 x2 x3
   have hd:=aN.but (nodig4 k9) (But.set4 (b:=bo) w' (.bool a7) (.slice g3 i3 j3) (.bool aY) (.slice g4 i4 j4))
   have be:=four_set k9 (.bool a7) (.slice g3 i3 j3) (.bool aY) (.slice g4 i4 j4)
   have bu:=(((((aL.out.trans (hw.mono aL.out.size)).setCell (p:=⟨bo,0,none⟩) aO.out (.bool a7)).setCell (p:=⟨bo,1,none⟩) aO.out (.slice g3 i3 j3)).setCell (p:=⟨bo,2,none⟩) aO.out (.bool aY)).setCell (p:=⟨bo,3,none⟩) aO.out (.slice g4 i4 j4))
   have HF:=ZH (ZN be (ZN hd bu))
   clear aN k9 hd be bu hw hb
   go_wp2_with fail
   go_roundg (n-(k+1))
   case measure=>have:=ax.out.1; omega
   case rel=>exact ⟨k+1,by have:=ax.out.1; omega,by congr 1,ZH ⟨_,_,_,_,_,_,_,_,HF.out.1,by rw[bq.out,show S+2+(k+1)*(S+K+3)=S+2+k*(S+K+3)+(S+2+K)+1 by rw[Nat.add_mul,Nat.one_mul]; omega]; exact HF.out.2.1⟩,HNO,ZH HF.out.2.2⟩
  ·have e1:((k:Int)<(n:Int))=False:=eq_false (by omega)
   obtain ⟨j,hj1,hj2⟩:=HSH.out
   have:=aH.out j (by have:=HN.out.1; omega)
   omega
theorem prat_any (s:ByteArray) (hs:s.size≤4294967280) {w:World} (hg:Glob w) (h0:readErr s.data.toList 400=0):Calls Tryz.prog 43 #[.string s] w fun e w'=>∃v,e=.returned v∧RtIn w' v (readVal s.data.toList) (s.data.toList.length+2)∧Below w.heap.size w w':=by
 obtain ⟨wa,b2,an,ad,af,ka⟩:=new_box w #[.bool false,.slice none 0 0,.bool false,.slice none 0 0] 43
 have ak:=ZH af
 have al:=ZH ka
 have HG:=ZH (Parse_any' s hs (hg.below af))
 have HE:=ZH h0
 have HW:=ZH (ZN an ad)
 clear af ka an ad hg hs h0
 go_enter Tryz.func43,Tryz.ntmps43
 go_upto_region 1 with fail
 rw[←HW.out.1,←HW.out.2]
 go_wp2_with fail
 refine HG.out.mono ?_
 rintro e w2 ⟨v,rfl,hv,-,ad⟩
 have hv:=hv HE.out
 rw[HE.out]
 obtain ⟨s1,a1,c1,l1,s2,a2,c2,l2,rfl⟩:=rt_shape hv
 obtain ⟨w6,b6,aj,am,ah,k6⟩:=new_box w2 #[.bool s1,.slice a1 c1 l1,.bool s2,.slice a2 c2 l2] 43
 have HQ:=ZH (hv.below ah)
 have ag:=ZH (ZN aj am)
 have ac:=ad.trans (ah.mono ad.size)
 have ai:=ZH ac
 have aa:=ZH (ZN ((ac.block b2 (ZL al.out)).trans al.out) k6)
 clear hv ad aj am ah k6 ac
 go_upto_region 2 with fail
 rw[←ag.out.1,←ag.out.2]
 clear ag
 obtain ⟨z0,z1,z2,z3⟩:=cells4 (ZR _ w6) aa.out.2
 obtain ⟨y0,y1,y2,y3⟩:=cells4 (ZR _ w6) aa.out.1
 have f0:=ZF aa.out.1 0
 have f1:=ZF aa.out.1 1
 have f2:=ZF aa.out.1 2
 have f3:=ZF aa.out.1 3
 have hu:=But.set4 (b:=b2) w6 (.bool s1) (.slice a1 c1 l1) (.bool s2) (.slice a2 c2 l2)
 have HR:=ZH (HQ.out.but (nodig4 aa.out.1) hu)
 have hb:=ak.out.trans (ai.out.mono ak.out.size)
 have ae:w.heap.size≤b2:=by have:=HW.out.2; omega
 have HGB:=ZH (show Below w.heap.size w ((((w6.setCell ⟨b2,0,none⟩ (.bool s1)).setCell ⟨b2,1,none⟩ (.slice a1 c1 l1)).setCell ⟨b2,2,none⟩ (.bool s2)).setCell ⟨b2,3,none⟩ (.slice a2 c2 l2)) from (((hb.setCell (p:=⟨b2,0,none⟩) ae _).setCell (p:=⟨b2,1,none⟩) ae _).setCell (p:=⟨b2,2,none⟩) ae _).setCell (p:=⟨b2,3,none⟩) ae _)
 clear hu hb ae
 go_wp2_with fail
 exact bodyPost_ret (v:=.agg #[.bool s1,.slice a1 c1 l1,.bool s2,.slice a2 c2 l2]) (by simp[results,Tryz.results43,go_sem,y0,y1,y2,y3]) rfl ⟨_,rfl,HR.out,HGB.out⟩
end Go.Proofs.YtdgimcmappmjdaaGreatDoor
