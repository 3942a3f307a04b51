/- The law's bounds of a form. -/
import Derived.Test.YtdgimcmappmjdaaGreatDoorMSpreadM
import Derived.Test.YtdgimcmappmjdaaGreatDoorKS
set_option linter.unusedSimpArgs false
set_option linter.unusedVariables false
set_option maxRecDepth 100000
namespace Go.Proofs.YtdgimcmappmjdaaGreatDoor
open List renaming setIfInBounds_toArray → zLa, set_cons_zero → zLb, set_cons_succ → zLc
open FlowR renaming putSel → zFp
open Act renaming put → zAp
open Nat renaming zero_add → zNz
open Flow.Steps renaming cons → zSc, nil → zSn
open FlowR.Step renaming of → zSo
open Go.RowKit Go.Num Go.Flow
open Go.Gx (mn mx)
set_option maxHeartbeats 8000000
set_option linter.unusedVariables false

theorem mn_mul {q a b:Rat} (h:a≤b):mn (q*a) (q*b)=(if q<0 then q*b else q*a)∧mx (q*a) (q*b)=(if q<0 then q*a else q*b):=by
 by_cases hq:q<0
 ·rw[if_pos hq,if_pos hq]
  have h1:q*b≤q*a:=by
   have h2:-q*a≤-q*b:=Rat.mul_le_mul_of_nonneg_left h (by grind)
   grind
  unfold mn mx
  constructor<;>split<;>grind
 ·rw[if_neg hq,if_neg hq]
  have h1:q*a≤q*b:=Rat.mul_le_mul_of_nonneg_left h (Rat.not_lt.1 hq)
  unfold mn mx
  constructor<;>split<;>grind
theorem pformBounds_any {w:World} (hg:Glob w) {v:Value} {c:List UInt8} {L:List (Nat×List UInt8)} (hf:FormAt w v c L) (hL:L.length≤1000) {ad:Option Addr} {cd:Nat} {D:List Dm} (hd:DimsIn w ad cd D)
  (hD:dmFine D) (hO:∀j,j<D.length→(D.getD j Dm.none).lower≤(D.getD j Dm.none).upper)
  {S:Nat} (hc:c.length≤S) (hc0:readErr c 400=0) (hS:S≤60000) (ht:∀j,j<L.length→(L.getD j (0,[])).1<D.length∧(L.getD j (0,[])).2.length≤S∧readErr (L.getD j (0,[])).2 400=0) (hb:(S+2)+(L.length+1)*(S+6)≤400000) :
  Calls Tryz.prog 104 #[v,.slice ad D.length cd] w fun e w'=>∃lo hi,e=.returned (.tuple #[lo,hi])∧RtIn w' lo (spreadTo D c L L.length).1 ((S+2)+L.length*(S+6))∧RtIn w' hi (spreadTo D c L L.length).2 ((S+2)+L.length*(S+6))∧Below w.heap.size w w':=by
 obtain ⟨tv,rfl,ao,ca,rfl,cr,co,cu⟩:=hf
 obtain ⟨n,hn⟩:∃n,n=L.length:=⟨_,rfl⟩
 obtain ⟨nd,bC⟩:∃n,n=D.length:=⟨_,rfl⟩
 obtain ⟨s,hs⟩:∃s:ByteArray,s=⟨c.toArray⟩:=⟨_,rfl⟩
 have bS:s.data.toList=c:=by rw[hs]
 obtain ⟨wa,bf,bl,bh,cn,cD,cq,cf,ck,k0,k1,k2⟩:=new_three w #[.string s,.slice ao n ca] #[.bool false,.slice none 0 0,.bool false,.slice none 0 0] #[.bool false,.slice none 0 0,.bool false,.slice none 0 0] 57 43 43
 have hcap:n≤ca∧ca≤9223372036854775807:=by rw[hn]; exact ⟨cr,co⟩
 have cj:nd≤cd∧cd≤9223372036854775807:=by rw[bC]; exact ⟨hd.1,hd.2.1⟩
 have cB:s.size≤4294967280:=by
  have h1:s.size=c.length:=by rw[hs]; simp[ByteArray.size]
  omega
 have aV:=fun (W:World) (hgW:Glob W)=>prat_any s cB hgW (by rw[bS]; exact hc0)
 rw[bS] at aV
 have ce:=ZH aV
 have HG:=ZH hg
 have HD:=ZH hd.2.2
 have cg:=ZH (ZN hD hO)
 have HTC:=ZH cu
 have HT:=ZH ht
 have a6:=ZH ck
 have HK:=ZH (ZN k0 (ZN k1 k2))
 have af:=ZH (show bl≠bh∧bf≠bl∧bf≠bh∧w.heap.size≤bl∧w.heap.size≤bh by omega)
 have HN:=ZH (ZN hn (ZN bC (ZN hL (ZN hS (ZN hb hc)))))
 have HW:=ZH (ZN cn (ZN cD (ZN cq cf)))
 have be:=ZH (ZR wa.heap.size wa)
 rw[←hn,←bC,←hs]
 have hn1:n≤1000:=by omega
 clear cn cD cq cf ck k0 k1 k2 hg hd hD hO cr co cu ht hL hS hb hc hc0 hs bS cB aV hn bC
 go_enter Tryz.func104,Tryz.ntmps104
 go_upto_region 1 with fail
 rw[←HW.out.1,←HW.out.2.2.2,←HW.out.2.2.1,←HW.out.2.1]
 clear HW
 refine FlowR.wp_region_sel (fun a b=>Below a.heap.size a b) (fun a=>ZR _ a) (fun _ _ _ h k=>h.trans (k.mono h.size)) [0,1,2,3,4,5] [false,false,false,false,false,false,false,false] [true,true,true,true,true,true,false,false] (fun i9 v w'=>match i9 with
  | 0=>v=.pointer (some ⟨bf,0,none⟩)
  | 1=>v=.string s
  | 2=>RtIn w' v (readVal c) (c.length+2)
  | 3=>v=.pointer (some ⟨bf,0,none⟩)
  | 4=>v=.string s
  | _=>RtIn w' v (readVal c) (c.length+2)) rfl rfl (by kernel_rfl) (by kernel_rfl) (by kernel_rfl) (by kernel_rfl) ?st ?_ ?_
 case st=>
  intro i9 v u1 u2 h hb
  match i9 with
  | 0 | 1 | 3 | 4=>exact h
  | 2 | 5 | _+6=>exact RtIn.below h hb
 refine zSc (zSo rfl ?s0) (zSc (zSo rfl ?s1) (zSc (zSo rfl ?s2) (zSc (zSo rfl ?s3) (zSc (zSo rfl ?s4) (zSc (zSo rfl ?s5) zSn)))))
 case s0 | s3=>
  intro xs w' hb hT K9 aa
  clear hT
  simp only[zFp,zAp,zLa,zLb,zLc,Nat.reduceAdd,zNz] at aa⊢
  have hw:=Flow.hwD be.out hb
  go_simp
  exact aa _ _ (ZR _ _) rfl
 case s1=>
  intro xs w' hb hT K9 aa
  have h0:(xs 0)=.pointer (some ⟨bf,0,none⟩):=hT 0 (by kernel_rfl)
  clear hT
  simp only[zFp,zAp,zLa,zLb,zLc,Nat.reduceAdd,zNz] at aa⊢
  have hw:=Flow.hwD be.out hb
  have kb:=(hw.block bf (ZL HK.out.1)).trans HK.out.1
  have y0:=ZI kb 0
  clear kb
  simp at y0
  (try simp only[h0] at aa)
  go_simp
  exact aa _ _ (ZR _ _) rfl
 case s2=>
  intro xs w' hb hT K9 aa
  have h1:(xs 1)=.string s:=hT 1 (by kernel_rfl)
  clear hT
  simp only[zFp,zAp,zLa,zLb,zLc,Nat.reduceAdd,zNz] at aa⊢
  have hw:=Flow.hwD be.out hb
  (try simp only[h1] at aa)
  go_simp
  go_at_call 43
  refine (ce.out w' (HG.out.below (a6.out.trans (hw.mono a6.out.size)))).mono ?_
  rintro e w3 ⟨v3,rfl,am,ak⟩
  exact aa _ _ ak am
 case s4=>
  intro xs w' hb hT K9 aa
  have h3:(xs 3)=.pointer (some ⟨bf,0,none⟩):=hT 3 (by kernel_rfl)
  clear hT
  simp only[zFp,zAp,zLa,zLb,zLc,Nat.reduceAdd,zNz] at aa⊢
  have hw:=Flow.hwD be.out hb
  have kb:=(hw.block bf (ZL HK.out.1)).trans HK.out.1
  have y0:=ZI kb 0
  clear kb
  simp at y0
  (try simp only[h3] at aa)
  go_simp
  exact aa _ _ (ZR _ _) rfl
 case s5=>
  intro xs w' hb hT K9 aa
  have h4:(xs 4)=.string s:=hT 4 (by kernel_rfl)
  clear hT
  simp only[zFp,zAp,zLa,zLb,zLc,Nat.reduceAdd,zNz] at aa⊢
  have hw:=Flow.hwD be.out hb
  (try simp only[h4] at aa)
  go_simp
  go_at_call 43
  refine (ce.out w' (HG.out.below (a6.out.trans (hw.mono a6.out.size)))).mono ?_
  rintro e w3 ⟨v3,rfl,am,ak⟩
  exact aa _ _ ak am
 intro xs w' hb hT
 have hw:=Flow.hwD be.out hb
 have h2:RtIn w' (xs 2) (readVal c) (c.length+2):=hT 2 (by rfl)
 have h5:RtIn w' (xs 5) (readVal c) (c.length+2):=hT 5 (by rfl)
 clear hT
 simp only[zFp,zAp,zLa,zLb,zLc,Nat.reduceAdd,zNz,FlowR.restL,FlowR.orM,Bool.false_or]
 obtain ⟨aF,g3,i3,j3,aA,g4,i4,j4,e5⟩:=rt_shape h2
 obtain ⟨aL,g5,i5,j5,aK,g6,i6,j6,av⟩:=rt_shape h5
 rw[e5] at h2
 rw[av] at h5
 simp only[e5,av]
 clear e5 av
 have al:=(hw.block bl (ZL HK.out.2.1)).trans HK.out.2.1
 have aj:=(hw.block bh (ZL HK.out.2.2)).trans HK.out.2.2
 obtain ⟨aO,aM,aH,aI⟩:=cells4 (ZR _ w') al
 obtain ⟨bs,bt,bj,bp⟩:=cells4 (ZR _ w') aj
 obtain ⟨f0,az,ay,aB⟩:=free4 al
 obtain ⟨u0,u1,u2,u3⟩:=free4 aj
 have a9:=af.out.1
 have ap:=af.out.1.symm
 have ac:=two_put al aj af.out.1 af.out.2.2.2.1 af.out.2.2.2.2 (a6.out.trans (hw.mono a6.out.size)) (h2.more (show c.length+2≤S+2 by have:=HN.out; omega)) (h5.more (show c.length+2≤S+2 by have:=HN.out; omega))
 have bT:=ac.but bf _ af.out.2.1 af.out.2.2.1 ((hw.block bf (ZL HK.out.1)).trans HK.out.1)
 obtain ⟨w3,cc⟩:∃x,x=(((((((w'.setCell ⟨bl,0,none⟩ (.bool aF)).setCell ⟨bl,1,none⟩ (.slice g3 i3 j3)).setCell ⟨bl,2,none⟩ (.bool aA)).setCell ⟨bl,3,none⟩ (.slice g4 i4 j4)).setCell ⟨bh,0,none⟩ (.bool aL)).setCell ⟨bh,1,none⟩ (.slice g5 i5 j5)).setCell ⟨bh,2,none⟩ (.bool aK)).setCell ⟨bh,3,none⟩ (.slice g6 i6 j6):=⟨_,rfl⟩
 rw[←cc] at ac bT
 have a7:=ZH (show _∧_ from ⟨ac,bT⟩)
 clear ac bT al aj h2 h5 hb hw
 go_upto_region 2 with fail
 rw[←cc]
 clear cc f0 az ay aB u0 u1 u2 u3 aO aM aH aI bs bt bj bp a9 ap
 go_wp2_with fail
 go_loopg [6] n (fun gk x wr=>∃k:Nat,k+gk=n∧x=.int .i64 k∧Hid (∃s1 a1 c1 l1 s2 a2 c2 l2 t1 b1 d1 m1 t2 b2 d2 m2,wr.heap[bl]?=some (.cells #[.bool s1,.slice a1 c1 l1,.bool s2,.slice a2 c2 l2] 43 (0,0))∧wr.heap[bh]?=some (.cells #[.bool t1,.slice b1 d1 m1,.bool t2,.slice b2 d2 m2] 43 (0,0))∧RtIn wr (.agg #[.bool s1,.slice a1 c1 l1,.bool s2,.slice a2 c2 l2]) (spreadTo D c L k).1 (S+2+k*(S+6))∧RtIn wr (.agg #[.bool t1,.slice b1 d1 m1,.bool t2,.slice b2 d2 m2]) (spreadTo D c L k).2 (S+2+k*(S+6)))∧Hid (wr.heap[bf]?=some (.cells #[.string s,.slice ao n ca] 57 (0,0)))∧Hid (Below w.heap.size w wr))
 case atStart=>exact ⟨0,by omega,rfl,ZH ⟨_,_,_,_,_,_,_,_,_,_,_,_,_,_,_,_,a7.out.1.kl,a7.out.1.kh,by rw[Nat.zero_mul]; exact a7.out.1.r1,by rw[Nat.zero_mul]; exact a7.out.1.r2⟩,ZH a7.out.2,ZH a7.out.1.below⟩
 case round=>
  obtain ⟨k,hk,rfl,aR,bF,aC⟩:=hrel
  obtain ⟨s1,a1,c1,l1,s2,a2,c2,l2,t1,b1,d1,m1,t2,b2,d2,m2,bA,bN,a5,a4⟩:=aR.out
  obtain ⟨s0,bD⟩:=cells2 (ZR _ wr) bF.out
  by_cases hlt:k<n
  ·have e1:((k:Int)<(n:Int))=True:=eq_true (by omega)
   obtain ⟨g,o,rfl,-,cA⟩:=HTC.out (by have:=HN.out.1; omega)
   have hx:=cA k (by have:=HN.out.1; omega)
   have aJ:=HT.out k (by have:=HN.out.1; omega)
   have aq:=spreadTo_succ (D:=D) (c:=c) (show k<L.length by have:=HN.out.1; omega)
   obtain ⟨⟨ti,tl⟩,cp⟩:∃x,x=L.getD k (0,[]):=⟨_,rfl⟩
   rw[←cp] at hx aJ aq
   simp only[] at hx aJ aq
   obtain ⟨tt,bw⟩:∃s:ByteArray,s=⟨tl.toArray⟩:=⟨_,rfl⟩
   rw[←bw] at hx
   have x0:=ZJ aC.out hx.1
   have x1:=ZJ aC.out hx.2
   obtain ⟨tq,b8⟩:∃x,x=readVal tl:=⟨_,rfl⟩
   have aV:=fun (W:World) (hgW:Glob W)=>prat_any tt (by
    have h1:tt.size=tl.length:=by rw[bw]; simp[ByteArray.size]
    have h2:=HN.out
    omega) hgW (by rw[bw]; exact aJ.2.2)
   rw[show tt.data.toList=tl by rw[bw],←b8] at aV
   have bX:=ZH aV
   obtain ⟨db,dof,rfl,-,cs⟩:=HD.out (by omega)
   have aT:=cs ti aJ.1
   have bR:=cg.out.1 ti aJ.1
   have b0:=cg.out.2 ti aJ.1
   have bi:=boxes_at (D:=D) (j:=ti) aJ.1
   obtain ⟨d,cv⟩:∃x,x=D.getD ti Dm.none:=⟨_,rfl⟩
   rw[←cv] at aT bR b0 bi
   obtain ⟨nm,dn,dl,du⟩:=d
   simp only[] at aT bR b0 bi
   have q0:=ZJ aC.out aT.1
   have q1:=ZJ aC.out aT.2.1
   have q2:=ZJ aC.out aT.2.2.1
   have q3:=ZJ aC.out aT.2.2.2
   obtain ⟨FR,bO⟩:∃x,x=dn+dl:=⟨_,rfl⟩
   obtain ⟨TO,bW⟩:∃x,x=dn+du:=⟨_,rfl⟩
   have bH:IntKind.i64.wrap (dn+dl)=FR:=by rw[bO]; exact IntWalk.i64_in _ (by omega)
   have bJ:IntKind.i64.wrap (dn+du)=TO:=by rw[bW]; exact IntWalk.i64_in _ (by omega)
   rw[←bO,←bW] at bi
   have bE:=ZH (show (-9223372036854775808≤FR∧FR≤9223372036854775807)∧(-9223372036854775808≤TO∧TO≤9223372036854775807) by omega)
   have bQ:(FR:Rat)≤(TO:Rat):=Rat.intCast_le_intCast.2 (by omega)
   obtain ⟨va,cF⟩:∃x,x=spreadTo D c L k:=⟨_,rfl⟩
   rw[←cF] at aq a5 a4
   have cC:=ZH (show spreadTo D c L (k+1)=(va.1+(if tq<0 then tq*(TO:Rat) else tq*(FR:Rat)),va.2+(if tq<0 then tq*(FR:Rat) else tq*(TO:Rat))) from by
    rw[aq]
    unfold spreadStep
    rw[bi,←b8,(mn_mul bQ).1,(mn_mul bQ).2])
   have bx:=ZH (ZN bH bJ)
   have bo:=ZH (ZN hlt aJ.2.1)
   have ht0:(0:Int)≤(ti:Int):=by omega
   have ht1:(ti:Int)<(nd:Int):=by have:=HN.out.2.1; omega
   have hk0:(0:Int)≤(k:Int):=by omega
   have hk1:(k:Int)<(n:Int):=by omega
   obtain ⟨K0,cz⟩:∃x,x=S+2+k*(S+6):=⟨_,rfl⟩
   rw[←cz] at a5 a4
   have a3:=ZH (ZN bA (ZN bN bF.out))
   have b5:=ZH (ZN a5 a4)
   have b9:=ZH aC.out
   have an:=ZH (show K0+(S+6)≤400000∧S+2+(k+1)*(S+6)=K0+(S+6)∧2≤K0 by
    have h1:=HN.out.2.2.2.2.1
    have h2:(k+1)*(S+6)≤(L.length+1)*(S+6):=Nat.mul_le_mul_right _ (by have h4:=HN.out.1; omega)
    rw[Nat.add_mul,Nat.one_mul] at h2⊢
    omega)
   clear cA hx aJ aq cp bw b8 aV cs aT bR b0 bi cv bO bW bH bJ bQ cF cz bA bN bF a5 a4 aR aC hlt
   go_upto_region 6 with fail
   obtain ⟨w4,bd,cE,ch,aS,k4⟩:=new_box wr #[.string nm,.int .i64 dn,.int .i64 dl,.int .i64 du] 23
   rw[←cE,←ch]
   have bG:=ZH (b9.out.trans (aS.mono b9.out.size))
   have H4:=ZH aS
   have aZ:=ZH k4
   have s0:=ZJ aS s0
   have bD:=ZJ aS bD
   have x0:=ZJ aS x0
   have x1:=ZJ aS x1
   clear cE ch aS k4 q0 q1 q2 q3 ht0 ht1
   go_wp2_with fail
   refine (bX.out w4 (HG.out.below bG.out)).mono ?_
   rintro e w5 ⟨v5,rfl,bU,cw⟩
   obtain ⟨z1,i1,j1,o1,z2,i2,j2,o2,rfl⟩:=rt_shape bU
   have ci:=ZH (bU.more (show tl.length+2≤S+2 by have:=bo.out.2; omega))
   have cb:=ZH cw
   clear bU cw s0 bD x0 x1 hk0 hk1
   go_upto_region 7 with fail
   obtain ⟨w6,bk,cy,cx,bZ,k6⟩:=new_box w5 #[.bool z1,.slice i1 j1 o1,.bool z2,.slice i2 j2 o2] 43
   rw[←cy,←cx]
   have bL:=cb.out.trans (bZ.mono cb.out.size)
   have a8:=H4.out.trans (bL.mono H4.out.size)
   have bB:=ZH (bG.out.trans (bL.mono bG.out.size))
   have aN:=ZH (ZN k6 (ci.out.below bZ))
   have ai:=ZH ((bL.block bd (ZL aZ.out)).trans aZ.out)
   have ae:=ZH (ZN ((a8.block bl (ZL a3.out.1)).trans a3.out.1) (ZN ((a8.block bh (ZL a3.out.2.1)).trans a3.out.2.1) ((a8.block bf (ZL a3.out.2.2)).trans a3.out.2.2)))
   have aY:=ZH (ZN (b5.out.1.below a8) (b5.out.2.below a8))
   have aE:=ZH (ZR w6.heap.size w6)
   have bH:=bx.out.1
   clear cy cx bZ k6 bL a8 bG H4 aZ ci cb a3 b5 b9
   refine FlowX.wp_region_mix (fun a b=>Below a.heap.size a b) (fun _ _ h=>h) [0,1,2,3,4,5,6,7,8] [true,true,true,true,true,true,true,true,true,false] (fun j9=>[8,99].contains j9) (fun i9 v w'=>match i9 with
    | 0=>v=.agg #[.bool z1,.slice i1 j1 o1,.bool z2,.slice i2 j2 o2]
    | 1=>v=.pointer (some ⟨bd,1,none⟩)
    | 2=>v=.int .i64 dn
    | 3=>v=.pointer (some ⟨bd,2,none⟩)
    | 4=>v=.int .i64 dl
    | 5=>v=.int .i64 FR
    | 6=>RtIn w' v (FR:Rat) 2
    | 7=>RtIn w' v (tq*(FR:Rat)) (S+2+2)
    | _=>True) (FlowX.TwoBox w6.heap.size #[.bool false,.slice none 0 0,.bool false,.slice none 0 0] 43 8 99) rfl rfl (by kernel_rfl) (by kernel_rfl) (by kernel_rfl) (by kernel_rfl) ?st ?hX ?hX0 ?_ ?_
   case st=>
    intro i9 v u1 u2 h hb
    match i9 with
    | 0 | 1 | 2 | 3 | 4 | 5 | 8 | _+9=>exact h
    | 6 | 7=>exact RtIn.below h hb
   case hX=>exact fun L xs w L' xs' w' h he hb=>h.below (he 8 rfl) (he 99 rfl) hb
   case hX0=>exact fun xs=>FlowX.TwoBox.init _ _
   refine Flow.Steps.cons (.inl ⟨rfl,FlowX.StepS.of rfl ?s0⟩) (Flow.Steps.cons (.inl ⟨rfl,FlowX.StepS.of rfl ?s1⟩) (Flow.Steps.cons (.inl ⟨rfl,FlowX.StepS.of rfl ?s2⟩) (Flow.Steps.cons (.inl ⟨rfl,FlowX.StepS.of rfl ?s3⟩) (Flow.Steps.cons (.inl ⟨rfl,FlowX.StepS.of rfl ?s4⟩) (Flow.Steps.cons (.inl ⟨rfl,FlowX.StepS.of rfl ?s5⟩) (Flow.Steps.cons (.inl ⟨rfl,FlowX.StepS.of rfl ?s6⟩) (Flow.Steps.cons (.inl ⟨rfl,FlowX.StepS.of rfl ?s7⟩) (Flow.Steps.cons (.inr ⟨rfl,FlowX.StepX.of rfl ?s8⟩) zSn))))))))
   case s0=>
    intro L9 xs w' hb hT ah K9 aa
    clear hT
    simp only[zFp,zAp,zLa,zLb,zLc,Nat.reduceAdd,zNz] at aa⊢
    have hw:=Flow.hwD aE.out hb
    obtain ⟨y0,y1,y2,y3⟩:=cells4 hw aN.out.1
    go_simp
    exact aa _ _ (ZR _ _) rfl
   case s1 | s3=>
    intro L9 xs w' hb hT ah K9 aa
    clear hT
    simp only[zFp,zAp,zLa,zLb,zLc,Nat.reduceAdd,zNz] at aa⊢
    have hw:=Flow.hwD aE.out hb
    go_simp
    exact aa _ _ (ZR _ _) rfl
   case s2=>
    intro L9 xs w' hb hT ah K9 aa
    have h1:(xs 1)=.pointer (some ⟨bd,1,none⟩):=(hT 1 (by kernel_rfl)).2
    clear hT
    simp only[zFp,zAp,zLa,zLb,zLc,Nat.reduceAdd,zNz] at aa⊢
    have hw:=Flow.hwD aE.out hb
    have kb:=(hw.block bd (ZL ai.out)).trans ai.out
    have y0:=ZI kb 1
    clear kb
    simp at y0
    (try simp only[h1] at aa)
    go_simp
    exact aa _ _ (ZR _ _) rfl
   case s4=>
    intro L9 xs w' hb hT ah K9 aa
    have h3:(xs 3)=.pointer (some ⟨bd,2,none⟩):=(hT 3 (by kernel_rfl)).2
    clear hT
    simp only[zFp,zAp,zLa,zLb,zLc,Nat.reduceAdd,zNz] at aa⊢
    have hw:=Flow.hwD aE.out hb
    have kb:=(hw.block bd (ZL ai.out)).trans ai.out
    have y0:=ZI kb 2
    clear kb
    simp at y0
    (try simp only[h3] at aa)
    go_simp
    exact aa _ _ (ZR _ _) rfl
   case s5=>
    intro L9 xs w' hb hT ah K9 aa
    have h2:(xs 2)=.int .i64 dn:=(hT 2 (by kernel_rfl)).2
    have h4:(xs 4)=.int .i64 dl:=(hT 4 (by kernel_rfl)).2
    clear hT
    simp only[zFp,zAp,zLa,zLb,zLc,Nat.reduceAdd,zNz] at aa⊢
    have hw:=Flow.hwD aE.out hb
    (try simp only[h2] at aa)
    (try simp only[h4] at aa)
    go_simp
    exact aa _ _ (ZR _ _) rfl
   case s6=>
    intro L9 xs w' hb hT ah K9 aa
    have h5:(xs 5)=.int .i64 FR:=(hT 5 (by kernel_rfl)).2
    clear hT
    simp only[zFp,zAp,zLa,zLb,zLc,Nat.reduceAdd,zNz] at aa⊢
    have hw:=Flow.hwD aE.out hb
    (try simp only[h5] at aa)
    go_simp
    go_at_call 23
    refine (ratFrom_any bE.out.1.1 bE.out.1.2).mono ?_
    rintro e w3 ⟨v3,rfl,am,ak⟩
    exact aa _ _ ak am
   case s7=>
    intro L9 xs w' hb hT ah K9 aa
    have h0:(xs 0)=.agg #[.bool z1,.slice i1 j1 o1,.bool z2,.slice i2 j2 o2]:=(hT 0 (by kernel_rfl)).2
    have h6:RtIn w' (xs 6) (FR:Rat) 2:=(hT 6 (by kernel_rfl)).2
    clear hT
    simp only[zFp,zAp,zLa,zLb,zLc,Nat.reduceAdd,zNz] at aa⊢
    have hw:=Flow.hwD aE.out hb
    (try simp only[h0] at aa)
    go_simp
    go_at_call 74
    refine (ratMul_any (aN.out.2.below hw) h6 (by omega) (by omega) (by have:=an.out; omega)).mono ?_
    rintro e w3 ⟨v3,rfl,am,ak⟩
    exact aa _ _ ak am
   case s8=>
    intro L9 xs w' hb hT ah hL9 K9 aa
    clear hT
    simp only[zFp,zAp,zLa,zLb,zLc,Nat.reduceAdd,zNz] at aa⊢
    have hw:=Flow.hwD aE.out hb
    go_simp
    exact aa _ _ (hb.alloc hb.size _) ((ZR _ _).alloc (Nat.le_refl _) _) trivial (ah.make1 hb.size (by decide))
   intro xs w' hb hT ah
   have hw:=Flow.hwD aE.out hb
   have h7:RtIn w' (xs 7) (tq*(FR:Rat)) (S+2+2):=hT 7 (by rfl)
   clear hT
   simp only[zFp,zAp,zLa,zLb,zLc,Nat.reduceAdd,zNz,FlowR.restL]
   obtain ⟨ba,e8,bz,ka⟩:=ah.one (by rfl)
   obtain ⟨aF,g3,i3,j3,aA,g4,i4,j4,e3⟩:=rt_shape h7
   rw[e3] at h7
   simp only[e3,e8]
   clear e3 e8 ah
   obtain ⟨aO,aM,aH,aI⟩:=cells4 (ZR _ w') ka
   obtain ⟨f0,az,ay,aB⟩:=free4 ka
   have aX:w.heap.size≤ba:=Nat.le_trans bB.out.size bz
   have ac:=rat_put ka aX (bB.out.trans (hw.mono bB.out.size)) h7
   have na:bl<ba∧bh<ba∧bf<ba∧bk<ba∧bd<ba:=by
    have h1:=ZL ae.out.1
    have h2:=ZL ae.out.2.1
    have h3:=ZL ae.out.2.2
    have h4:=ZL aN.out.1
    have h5:=ZL ai.out
    omega
   have aW:=ZN ((ac.but.block bl (by omega) (ZL ((hw.block bl (ZL ae.out.1)).trans ae.out.1))).trans ((hw.block bl (ZL ae.out.1)).trans ae.out.1)) (ZN ((ac.but.block bh (by omega) (ZL ((hw.block bh (ZL ae.out.2.1)).trans ae.out.2.1))).trans ((hw.block bh (ZL ae.out.2.1)).trans ae.out.2.1)) (ZN ((ac.but.block bf (by omega) (ZL ((hw.block bf (ZL ae.out.2.2)).trans ae.out.2.2))).trans ((hw.block bf (ZL ae.out.2.2)).trans ae.out.2.2)) (ZN ((ac.but.block bk (by omega) (ZL ((hw.block bk (ZL aN.out.1)).trans aN.out.1))).trans ((hw.block bk (ZL aN.out.1)).trans aN.out.1)) ((ac.but.block bd (by omega) (ZL ((hw.block bd (ZL ai.out)).trans ai.out))).trans ((hw.block bd (ZL ai.out)).trans ai.out)))))
   have a0:=ZN ((aY.out.1.below hw).but (nodig4 ka) ac.but) (ZN ((aY.out.2.below hw).but (nodig4 ka) ac.but) ((aN.out.2.below hw).but (nodig4 ka) ac.but))
   obtain ⟨w8,b3⟩:∃x,x=(((w'.setCell ⟨ba,0,none⟩ (.bool aF)).setCell ⟨ba,1,none⟩ (.slice g3 i3 j3)).setCell ⟨ba,2,none⟩ (.bool aA)).setCell ⟨ba,3,none⟩ (.slice g4 i4 j4):=⟨_,rfl⟩
   rw[←b3] at ac aW a0
   have aD:=ZH ac
   have ag:=ZH aW
   have bu:=ZH a0
   have ct:=ZH (ZN na aX)
   have ax:=ZH (ZR w8.heap.size w8)
   have bJ:=bx.out.2
   clear ac aW a0 na bz aX ka h7 hw hb bH ae aY aN ai bB aE
   go_upto_region 8 with fail
   rw[←b3]
   clear b3 f0 az ay aB aO aM aH aI
   refine FlowX.wp_region_mix (fun a b=>Below a.heap.size a b) (fun _ _ h=>h) [0,1,2,3,4,5,6,7,8] [true,true,true,true,true,true,true,true,true,false] (fun j9=>[8,99].contains j9) (fun i9 v w'=>match i9 with
    | 0=>v=.agg #[.bool z1,.slice i1 j1 o1,.bool z2,.slice i2 j2 o2]
    | 1=>v=.pointer (some ⟨bd,1,none⟩)
    | 2=>v=.int .i64 dn
    | 3=>v=.pointer (some ⟨bd,3,none⟩)
    | 4=>v=.int .i64 du
    | 5=>v=.int .i64 TO
    | 6=>RtIn w' v (TO:Rat) 2
    | 7=>RtIn w' v (tq*(TO:Rat)) (S+2+2)
    | _=>True) (FlowX.TwoBox w8.heap.size #[.bool false,.slice none 0 0,.bool false,.slice none 0 0] 43 8 99) rfl rfl (by kernel_rfl) (by kernel_rfl) (by kernel_rfl) (by kernel_rfl) ?st ?hX ?hX0 ?_ ?_
   case st=>
    intro i9 v u1 u2 h hb
    match i9 with
    | 0 | 1 | 2 | 3 | 4 | 5 | 8 | _+9=>exact h
    | 6 | 7=>exact RtIn.below h hb
   case hX=>exact fun L xs w L' xs' w' h he hb=>h.below (he 8 rfl) (he 99 rfl) hb
   case hX0=>exact fun xs=>FlowX.TwoBox.init _ _
   refine Flow.Steps.cons (.inl ⟨rfl,FlowX.StepS.of rfl ?s0⟩) (Flow.Steps.cons (.inl ⟨rfl,FlowX.StepS.of rfl ?s1⟩) (Flow.Steps.cons (.inl ⟨rfl,FlowX.StepS.of rfl ?s2⟩) (Flow.Steps.cons (.inl ⟨rfl,FlowX.StepS.of rfl ?s3⟩) (Flow.Steps.cons (.inl ⟨rfl,FlowX.StepS.of rfl ?s4⟩) (Flow.Steps.cons (.inl ⟨rfl,FlowX.StepS.of rfl ?s5⟩) (Flow.Steps.cons (.inl ⟨rfl,FlowX.StepS.of rfl ?s6⟩) (Flow.Steps.cons (.inl ⟨rfl,FlowX.StepS.of rfl ?s7⟩) (Flow.Steps.cons (.inr ⟨rfl,FlowX.StepX.of rfl ?s8⟩) zSn))))))))
   case s0=>
    intro L9 xs w' hb hT ah K9 aa
    clear hT
    simp only[zFp,zAp,zLa,zLb,zLc,Nat.reduceAdd,zNz] at aa⊢
    have hw:=Flow.hwD ax.out hb
    obtain ⟨y0,y1,y2,y3⟩:=cells4 hw ag.out.2.2.2.1
    go_simp
    exact aa _ _ (ZR _ _) rfl
   case s1 | s3=>
    intro L9 xs w' hb hT ah K9 aa
    clear hT
    simp only[zFp,zAp,zLa,zLb,zLc,Nat.reduceAdd,zNz] at aa⊢
    have hw:=Flow.hwD ax.out hb
    go_simp
    exact aa _ _ (ZR _ _) rfl
   case s2=>
    intro L9 xs w' hb hT ah K9 aa
    have h1:(xs 1)=.pointer (some ⟨bd,1,none⟩):=(hT 1 (by kernel_rfl)).2
    clear hT
    simp only[zFp,zAp,zLa,zLb,zLc,Nat.reduceAdd,zNz] at aa⊢
    have hw:=Flow.hwD ax.out hb
    have kb:=(hw.block bd (ZL ag.out.2.2.2.2)).trans ag.out.2.2.2.2
    have y0:=ZI kb 1
    clear kb
    simp at y0
    (try simp only[h1] at aa)
    go_simp
    exact aa _ _ (ZR _ _) rfl
   case s4=>
    intro L9 xs w' hb hT ah K9 aa
    have h3:(xs 3)=.pointer (some ⟨bd,3,none⟩):=(hT 3 (by kernel_rfl)).2
    clear hT
    simp only[zFp,zAp,zLa,zLb,zLc,Nat.reduceAdd,zNz] at aa⊢
    have hw:=Flow.hwD ax.out hb
    have kb:=(hw.block bd (ZL ag.out.2.2.2.2)).trans ag.out.2.2.2.2
    have y0:=ZI kb 3
    clear kb
    simp at y0
    (try simp only[h3] at aa)
    go_simp
    exact aa _ _ (ZR _ _) rfl
   case s5=>
    intro L9 xs w' hb hT ah K9 aa
    have h2:(xs 2)=.int .i64 dn:=(hT 2 (by kernel_rfl)).2
    have h4:(xs 4)=.int .i64 du:=(hT 4 (by kernel_rfl)).2
    clear hT
    simp only[zFp,zAp,zLa,zLb,zLc,Nat.reduceAdd,zNz] at aa⊢
    have hw:=Flow.hwD ax.out hb
    (try simp only[h2] at aa)
    (try simp only[h4] at aa)
    go_simp
    exact aa _ _ (ZR _ _) rfl
   case s6=>
    intro L9 xs w' hb hT ah K9 aa
    have h5:(xs 5)=.int .i64 TO:=(hT 5 (by kernel_rfl)).2
    clear hT
    simp only[zFp,zAp,zLa,zLb,zLc,Nat.reduceAdd,zNz] at aa⊢
    have hw:=Flow.hwD ax.out hb
    (try simp only[h5] at aa)
    go_simp
    go_at_call 23
    refine (ratFrom_any bE.out.2.1 bE.out.2.2).mono ?_
    rintro e w3 ⟨v3,rfl,am,ak⟩
    exact aa _ _ ak am
   case s7=>
    intro L9 xs w' hb hT ah K9 aa
    have h0:(xs 0)=.agg #[.bool z1,.slice i1 j1 o1,.bool z2,.slice i2 j2 o2]:=(hT 0 (by kernel_rfl)).2
    have h6:RtIn w' (xs 6) (TO:Rat) 2:=(hT 6 (by kernel_rfl)).2
    clear hT
    simp only[zFp,zAp,zLa,zLb,zLc,Nat.reduceAdd,zNz] at aa⊢
    have hw:=Flow.hwD ax.out hb
    (try simp only[h0] at aa)
    go_simp
    go_at_call 74
    refine (ratMul_any (bu.out.2.2.below hw) h6 (by omega) (by omega) (by have:=an.out; omega)).mono ?_
    rintro e w3 ⟨v3,rfl,am,ak⟩
    exact aa _ _ ak am
   case s8=>
    intro L9 xs w' hb hT ah hL9 K9 aa
    clear hT
    simp only[zFp,zAp,zLa,zLb,zLc,Nat.reduceAdd,zNz] at aa⊢
    have hw:=Flow.hwD ax.out hb
    go_simp
    exact aa _ _ (hb.alloc hb.size _) ((ZR _ _).alloc (Nat.le_refl _) _) trivial (ah.make1 hb.size (by decide))
   intro xs w' hb hT ah
   have hw:=Flow.hwD ax.out hb
   have h7:RtIn w' (xs 7) (tq*(TO:Rat)) (S+2+2):=hT 7 (by rfl)
   clear hT
   simp only[zFp,zAp,zLa,zLb,zLc,Nat.reduceAdd,zNz,FlowR.restL]
   obtain ⟨bb,e8,bz,ka⟩:=ah.one (by rfl)
   obtain ⟨aL,g5,i5,j5,aK,g6,i6,j6,e3⟩:=rt_shape h7
   rw[e3] at h7
   simp only[e3,e8]
   clear e3 e8 ah
   obtain ⟨aO,aM,aH,aI⟩:=cells4 (ZR _ w') ka
   obtain ⟨f0,az,ay,aB⟩:=free4 ka
   have aU:w.heap.size≤bb:=Nat.le_trans aD.out.below.size bz
   have ac:=rat_put ka aU (aD.out.below.trans (hw.mono aD.out.below.size)) h7
   have na:bl<bb∧bh<bb∧bf<bb∧bk<bb∧ba<bb:=by
    have h1:=ZL ag.out.1
    have h2:=ZL ag.out.2.1
    have h3:=ZL ag.out.2.2.1
    have h4:=ZL ag.out.2.2.2.1
    have h5:=ZL aD.out.block
    omega
   have aW:=ZN ((ac.but.block bl (by omega) (ZL ((hw.block bl (ZL ag.out.1)).trans ag.out.1))).trans ((hw.block bl (ZL ag.out.1)).trans ag.out.1)) (ZN ((ac.but.block bh (by omega) (ZL ((hw.block bh (ZL ag.out.2.1)).trans ag.out.2.1))).trans ((hw.block bh (ZL ag.out.2.1)).trans ag.out.2.1)) (ZN ((ac.but.block bf (by omega) (ZL ((hw.block bf (ZL ag.out.2.2.1)).trans ag.out.2.2.1))).trans ((hw.block bf (ZL ag.out.2.2.1)).trans ag.out.2.2.1)) (ZN ((ac.but.block bk (by omega) (ZL ((hw.block bk (ZL ag.out.2.2.2.1)).trans ag.out.2.2.2.1))).trans ((hw.block bk (ZL ag.out.2.2.2.1)).trans ag.out.2.2.2.1)) ((ac.but.block ba (by omega) (ZL ((hw.block ba (ZL aD.out.block)).trans aD.out.block))).trans ((hw.block ba (ZL aD.out.block)).trans aD.out.block)))))
   have a0:=ZN ((bu.out.1.below hw).but (nodig4 ka) ac.but) (ZN ((bu.out.2.1.below hw).but (nodig4 ka) ac.but) (ZN ((bu.out.2.2.below hw).but (nodig4 ka) ac.but) ((aD.out.rt.below hw).but (nodig4 ka) ac.but)))
   obtain ⟨w9,bP⟩:∃x,x=(((w'.setCell ⟨bb,0,none⟩ (.bool aL)).setCell ⟨bb,1,none⟩ (.slice g5 i5 j5)).setCell ⟨bb,2,none⟩ (.bool aK)).setCell ⟨bb,3,none⟩ (.slice g6 i6 j6):=⟨_,rfl⟩
   rw[←bP] at ac aW a0
   have bc:=ZH ac
   have aG:=ZH aW
   have br:=ZH a0
   have cl:=ZH (ZN na aU)
   clear ac aW a0 na bz aU ka h7 hw hb bJ aD ag bu ax
   go_upto_region 9 with fail
   rw[←bP]
   clear bP f0 az ay aB aO aM aH aI
   obtain ⟨z0,z1',z2',z3⟩:=cells4 (ZR _ w9) aG.out.2.2.2.1
   go_wp2_with fail
   refine (ratSign_any br.out.2.2.1).mono ?_
   rintro e wx ⟨rfl,au⟩
   clear z0 z1' z2' z3
   have bM:=ZH (ZN ((au.block ba (ZL aG.out.2.2.2.2)).trans aG.out.2.2.2.2) ((au.block bb (ZL bc.out.block)).trans bc.out.block))
   have aw:=ZH (ZN ((au.block bl (ZL aG.out.1)).trans aG.out.1) (ZN ((au.block bh (ZL aG.out.2.1)).trans aG.out.2.1) ((au.block bf (ZL aG.out.2.2.1)).trans aG.out.2.2.1)))
   have aP:=ZH (ZN (br.out.1.below au) (ZN (br.out.2.1.below au) (ZN (br.out.2.2.2.below au) (bc.out.rt.below au))))
   have bV:=ZH (bc.out.below.trans (au.mono bc.out.below.size))
   have bK:=ZH (ZR wx.heap.size wx)
   have ar:=ZH (show ba≠bb∧w.heap.size≤ba∧w.heap.size≤bb∧bl<ba∧bl<bb∧bh<ba∧bh<bb∧bf<ba∧bf<bb by have h1:=ct.out; have h2:=cl.out; omega)
   clear au aG bc br ct cl
   by_cases hq:tq<0
   ·have e2:(cmpI tq.num 0<0)=True:=eq_true ((cmp_ltz tq).2 hq)
    have aq:=cC.out
    rw[if_pos hq,if_pos hq] at aq
    have bq:=ZH aq
    clear aq hq
    have ka:=bM.out.1
    have kb:=bM.out.2
    obtain ⟨aO,aM,aH,aI⟩:=cells4 (ZR _ wx) ka
    obtain ⟨bs,bt,bj,bp⟩:=cells4 (ZR _ wx) kb
    obtain ⟨f0,az,ay,aB⟩:=free4 ka
    obtain ⟨u0,u1,u2,u3⟩:=free4 kb
    have a9:=ar.out.1
    have ap:=ar.out.1.symm
    have ac:=two_put ka kb ar.out.1 ar.out.2.1 ar.out.2.2.1 bV.out aP.out.2.2.2 aP.out.2.2.1
    have b4:=ZN (ac.but bl _ (by have:=ar.out; omega) (by have:=ar.out; omega) aw.out.1) (ZN (ac.but bh _ (by have:=ar.out; omega) (by have:=ar.out; omega) aw.out.2.1) (ac.but bf _ (by have:=ar.out; omega) (by have:=ar.out; omega) aw.out.2.2))
    have hf:=But.set4 (b:=ba) wx (.bool aL) (.slice g5 i5 j5) (.bool aK) (.slice g6 i6 j6)
    have b6:=(hf.block bb ar.out.1.symm (ZL kb)).trans kb
    have bY:=ZN ((aP.out.1.but (nodig4 ka) hf).but (nodig4 b6) (But.set4 (b:=bb) _ (.bool aF) (.slice g3 i3 j3) (.bool aA) (.slice g4 i4 j4))) ((aP.out.2.1.but (nodig4 ka) hf).but (nodig4 b6) (But.set4 (b:=bb) _ (.bool aF) (.slice g3 i3 j3) (.bool aA) (.slice g4 i4 j4)))
    obtain ⟨wy,b7⟩:∃x,x=(((((((wx.setCell ⟨ba,0,none⟩ (.bool aL)).setCell ⟨ba,1,none⟩ (.slice g5 i5 j5)).setCell ⟨ba,2,none⟩ (.bool aK)).setCell ⟨ba,3,none⟩ (.slice g6 i6 j6)).setCell ⟨bb,0,none⟩ (.bool aF)).setCell ⟨bb,1,none⟩ (.slice g3 i3 j3)).setCell ⟨bb,2,none⟩ (.bool aA)).setCell ⟨bb,3,none⟩ (.slice g4 i4 j4):=⟨_,rfl⟩
    rw[←b7] at ac b4 bY
    have bg:=ZH ac
    have aQ:=ZH b4
    have cm:=ZH bY
    have bI:=ZH (ZR wy.heap.size wy)
    clear ac b4 bY hf b6 ka kb
    go_upto_region 11 with fail
    rw[←b7]
    clear e2 b7 a9 ap f0 az ay aB u0 u1 u2 u3 aO aM aH aI bs bt bj bp
    refine FlowR.wp_region_sel (fun a b=>Below a.heap.size a b) (fun a=>ZR _ a) (fun _ _ _ h k=>h.trans (k.mono h.size)) [0,1,2,3,4,5] [false,false,false,false,false,false,false,false] [true,true,true,true,true,true,false,false] (fun i9 v w'=>match i9 with
     | 0=>v=.agg #[.bool s1,.slice a1 c1 l1,.bool s2,.slice a2 c2 l2]
     | 1=>v=.agg #[.bool aL,.slice g5 i5 j5,.bool aK,.slice g6 i6 j6]
     | 2=>RtIn w' v (va.1+tq*(TO:Rat)) (K0+(S+2+2)+1)
     | 3=>v=.agg #[.bool t1,.slice b1 d1 m1,.bool t2,.slice b2 d2 m2]
     | 4=>v=.agg #[.bool aF,.slice g3 i3 j3,.bool aA,.slice g4 i4 j4]
     | _=>RtIn w' v (va.2+tq*(FR:Rat)) (K0+(S+2+2)+1)) rfl rfl (by kernel_rfl) (by kernel_rfl) (by kernel_rfl) (by kernel_rfl) ?st ?_ ?_
    case st=>
     intro i9 v u1 u2 h hb
     match i9 with
     | 0 | 1 | 3 | 4=>exact h
     | 2 | 5 | _+6=>exact RtIn.below h hb
    refine zSc (zSo rfl ?s0) (zSc (zSo rfl ?s1) (zSc (zSo rfl ?s2) (zSc (zSo rfl ?s3) (zSc (zSo rfl ?s4) (zSc (zSo rfl ?s5) zSn)))))
    case s0 | s1 | s3 | s4=>
     intro xs w' hb hT K9 aa
     clear hT
     simp only[zFp,zAp,zLa,zLb,zLc,Nat.reduceAdd,zNz] at aa⊢
     have hw:=Flow.hwD bI.out hb
     obtain ⟨y0,y1,y2,y3⟩:=cells4 hw aQ.out.1
     obtain ⟨z0,z1,z2,z3⟩:=cells4 hw bg.out.kl
     obtain ⟨u0,u1,u2,u3⟩:=cells4 hw aQ.out.2.1
     obtain ⟨v0,v1,v2,v3⟩:=cells4 hw bg.out.kh
     go_simp
     exact aa _ _ (ZR _ _) rfl
    case s2=>
     intro xs w' hb hT K9 aa
     have h0:(xs 0)=.agg #[.bool s1,.slice a1 c1 l1,.bool s2,.slice a2 c2 l2]:=hT 0 (by kernel_rfl)
     have h1:(xs 1)=.agg #[.bool aL,.slice g5 i5 j5,.bool aK,.slice g6 i6 j6]:=hT 1 (by kernel_rfl)
     clear hT
     simp only[zFp,zAp,zLa,zLb,zLc,Nat.reduceAdd,zNz] at aa⊢
     have hw:=Flow.hwD bI.out hb
     (try simp only[h0] at aa)
     (try simp only[h1] at aa)
     go_simp
     go_at_call 79
     refine (ratAdd_any (cm.out.1.below hw) (bg.out.r1.below hw) an.out.2.2 (by omega) (by have:=an.out; omega)).mono ?_
     rintro e w3 ⟨v3,rfl,am,ak⟩
     exact aa _ _ ak am
    case s5=>
     intro xs w' hb hT K9 aa
     have h3:(xs 3)=.agg #[.bool t1,.slice b1 d1 m1,.bool t2,.slice b2 d2 m2]:=hT 3 (by kernel_rfl)
     have h4:(xs 4)=.agg #[.bool aF,.slice g3 i3 j3,.bool aA,.slice g4 i4 j4]:=hT 4 (by kernel_rfl)
     clear hT
     simp only[zFp,zAp,zLa,zLb,zLc,Nat.reduceAdd,zNz] at aa⊢
     have hw:=Flow.hwD bI.out hb
     (try simp only[h3] at aa)
     (try simp only[h4] at aa)
     go_simp
     go_at_call 79
     refine (ratAdd_any (cm.out.2.below hw) (bg.out.r2.below hw) an.out.2.2 (by omega) (by have:=an.out; omega)).mono ?_
     rintro e w3 ⟨v3,rfl,am,ak⟩
     exact aa _ _ ak am
    intro xs w' hb hT
    have hw:=Flow.hwD bI.out hb
    have h2:RtIn w' (xs 2) (va.1+tq*(TO:Rat)) (K0+(S+2+2)+1):=hT 2 (by rfl)
    have h5:RtIn w' (xs 5) (va.2+tq*(FR:Rat)) (K0+(S+2+2)+1):=hT 5 (by rfl)
    clear hT
    simp only[zFp,zAp,zLa,zLb,zLc,Nat.reduceAdd,zNz,FlowR.restL,FlowR.orM,Bool.false_or]
    obtain ⟨p5',g7,i7,j7,p6',g8,i8,j8,e5⟩:=rt_shape h2
    obtain ⟨p7',g9,i9,j9,p8',gx,ix,jx,av⟩:=rt_shape h5
    rw[e5] at h2
    rw[av] at h5
    simp only[e5,av]
    clear e5 av
    have al:=(hw.block bl (ZL aQ.out.1)).trans aQ.out.1
    have aj:=(hw.block bh (ZL aQ.out.2.1)).trans aQ.out.2.1
    obtain ⟨aO,aM,aH,aI⟩:=cells4 (ZR _ w') al
    obtain ⟨bs,bt,bj,bp⟩:=cells4 (ZR _ w') aj
    obtain ⟨f0,az,ay,aB⟩:=free4 al
    obtain ⟨u0,u1,u2,u3⟩:=free4 aj
    have a9:=af.out.1
    have ap:=af.out.1.symm
    have ac:=two_put al aj af.out.1 af.out.2.2.2.1 af.out.2.2.2.2 (bg.out.below.trans (hw.mono bg.out.below.size)) h2 h5
    have bv:=ac.but bf _ af.out.2.1 af.out.2.2.1 ((hw.block bf (ZL aQ.out.2.2)).trans aQ.out.2.2)
    have HF:=ZH (ZN ac bv)
    clear ac bv al aj h2 h5 hb hw
    go_wp2_with fail
    go_roundg (n-(k+1))
    case measure=>have:=bo.out.1; omega
    case rel=>exact ⟨k+1,by have:=bo.out.1; omega,by congr 1,ZH ⟨_,_,_,_,_,_,_,_,_,_,_,_,_,_,_,_,HF.out.1.kl,HF.out.1.kh,by rw[bq.out,an.out.2.1]; exact HF.out.1.r1.more (by omega),by rw[bq.out,an.out.2.1]; exact HF.out.1.r2.more (by omega)⟩,ZH HF.out.2,ZH HF.out.1.below⟩
   ·have e2:(cmpI tq.num 0<0)=False:=eq_false (fun h=>hq ((cmp_ltz tq).1 h))
    have aq:=cC.out
    rw[if_neg hq,if_neg hq] at aq
    have bq:=ZH aq
    clear aq hq
    go_upto_region 11 with fail
    clear e2
    refine FlowR.wp_region_sel (fun a b=>Below a.heap.size a b) (fun a=>ZR _ a) (fun _ _ _ h k=>h.trans (k.mono h.size)) [0,1,2,3,4,5] [false,false,false,false,false,false,false,false] [true,true,true,true,true,true,false,false] (fun i9 v w'=>match i9 with
     | 0=>v=.agg #[.bool s1,.slice a1 c1 l1,.bool s2,.slice a2 c2 l2]
     | 1=>v=.agg #[.bool aF,.slice g3 i3 j3,.bool aA,.slice g4 i4 j4]
     | 2=>RtIn w' v (va.1+tq*(FR:Rat)) (K0+(S+2+2)+1)
     | 3=>v=.agg #[.bool t1,.slice b1 d1 m1,.bool t2,.slice b2 d2 m2]
     | 4=>v=.agg #[.bool aL,.slice g5 i5 j5,.bool aK,.slice g6 i6 j6]
     | _=>RtIn w' v (va.2+tq*(TO:Rat)) (K0+(S+2+2)+1)) rfl rfl (by kernel_rfl) (by kernel_rfl) (by kernel_rfl) (by kernel_rfl) ?st ?_ ?_
    case st=>
     intro i9 v u1 u2 h hb
     match i9 with
     | 0 | 1 | 3 | 4=>exact h
     | 2 | 5 | _+6=>exact RtIn.below h hb
    refine zSc (zSo rfl ?s0) (zSc (zSo rfl ?s1) (zSc (zSo rfl ?s2) (zSc (zSo rfl ?s3) (zSc (zSo rfl ?s4) (zSc (zSo rfl ?s5) zSn)))))
    case s0 | s1 | s3 | s4=>
     intro xs w' hb hT K9 aa
     clear hT
     simp only[zFp,zAp,zLa,zLb,zLc,Nat.reduceAdd,zNz] at aa⊢
     have hw:=Flow.hwD bK.out hb
     obtain ⟨y0,y1,y2,y3⟩:=cells4 hw aw.out.1
     obtain ⟨z0,z1,z2,z3⟩:=cells4 hw bM.out.1
     obtain ⟨u0,u1,u2,u3⟩:=cells4 hw aw.out.2.1
     obtain ⟨v0,v1,v2,v3⟩:=cells4 hw bM.out.2
     go_simp
     exact aa _ _ (ZR _ _) rfl
    case s2=>
     intro xs w' hb hT K9 aa
     have h0:(xs 0)=.agg #[.bool s1,.slice a1 c1 l1,.bool s2,.slice a2 c2 l2]:=hT 0 (by kernel_rfl)
     have h1:(xs 1)=.agg #[.bool aF,.slice g3 i3 j3,.bool aA,.slice g4 i4 j4]:=hT 1 (by kernel_rfl)
     clear hT
     simp only[zFp,zAp,zLa,zLb,zLc,Nat.reduceAdd,zNz] at aa⊢
     have hw:=Flow.hwD bK.out hb
     (try simp only[h0] at aa)
     (try simp only[h1] at aa)
     go_simp
     go_at_call 79
     refine (ratAdd_any (aP.out.1.below hw) (aP.out.2.2.1.below hw) an.out.2.2 (by omega) (by have:=an.out; omega)).mono ?_
     rintro e w3 ⟨v3,rfl,am,ak⟩
     exact aa _ _ ak am
    case s5=>
     intro xs w' hb hT K9 aa
     have h3:(xs 3)=.agg #[.bool t1,.slice b1 d1 m1,.bool t2,.slice b2 d2 m2]:=hT 3 (by kernel_rfl)
     have h4:(xs 4)=.agg #[.bool aL,.slice g5 i5 j5,.bool aK,.slice g6 i6 j6]:=hT 4 (by kernel_rfl)
     clear hT
     simp only[zFp,zAp,zLa,zLb,zLc,Nat.reduceAdd,zNz] at aa⊢
     have hw:=Flow.hwD bK.out hb
     (try simp only[h3] at aa)
     (try simp only[h4] at aa)
     go_simp
     go_at_call 79
     refine (ratAdd_any (aP.out.2.1.below hw) (aP.out.2.2.2.below hw) an.out.2.2 (by omega) (by have:=an.out; omega)).mono ?_
     rintro e w3 ⟨v3,rfl,am,ak⟩
     exact aa _ _ ak am
    intro xs w' hb hT
    have hw:=Flow.hwD bK.out hb
    have h2:RtIn w' (xs 2) (va.1+tq*(FR:Rat)) (K0+(S+2+2)+1):=hT 2 (by rfl)
    have h5:RtIn w' (xs 5) (va.2+tq*(TO:Rat)) (K0+(S+2+2)+1):=hT 5 (by rfl)
    clear hT
    simp only[zFp,zAp,zLa,zLb,zLc,Nat.reduceAdd,zNz,FlowR.restL,FlowR.orM,Bool.false_or]
    obtain ⟨p5',g7,i7,j7,p6',g8,i8,j8,e5⟩:=rt_shape h2
    obtain ⟨p7',g9,i9,j9,p8',gx,ix,jx,av⟩:=rt_shape h5
    rw[e5] at h2
    rw[av] at h5
    simp only[e5,av]
    clear e5 av
    have al:=(hw.block bl (ZL aw.out.1)).trans aw.out.1
    have aj:=(hw.block bh (ZL aw.out.2.1)).trans aw.out.2.1
    obtain ⟨aO,aM,aH,aI⟩:=cells4 (ZR _ w') al
    obtain ⟨bs,bt,bj,bp⟩:=cells4 (ZR _ w') aj
    obtain ⟨f0,az,ay,aB⟩:=free4 al
    obtain ⟨u0,u1,u2,u3⟩:=free4 aj
    have a9:=af.out.1
    have ap:=af.out.1.symm
    have ac:=two_put al aj af.out.1 af.out.2.2.2.1 af.out.2.2.2.2 (bV.out.trans (hw.mono bV.out.size)) h2 h5
    have bv:=ac.but bf _ af.out.2.1 af.out.2.2.1 ((hw.block bf (ZL aw.out.2.2)).trans aw.out.2.2)
    have HF:=ZH (ZN ac bv)
    clear ac bv al aj h2 h5 hb hw
    go_wp2_with fail
    go_roundg (n-(k+1))
    case measure=>have:=bo.out.1; omega
    case rel=>exact ⟨k+1,by have:=bo.out.1; omega,by congr 1,ZH ⟨_,_,_,_,_,_,_,_,_,_,_,_,_,_,_,_,HF.out.1.kl,HF.out.1.kh,by rw[bq.out,an.out.2.1]; exact HF.out.1.r1.more (by omega),by rw[bq.out,an.out.2.1]; exact HF.out.1.r2.more (by omega)⟩,ZH HF.out.2,ZH HF.out.1.below⟩
  ·have e1:((k:Int)<(n:Int))=False:=eq_false (by omega)
   obtain rfl:k=n:=by omega
   have bn:=ZH (ZN bA bN)
   have bm:=ZH (ZN a5 a4)
   have HB9:=ZH aC.out
   clear aR bF bA bN a5 a4 aC
   go_upto_region 12 with fail
   clear s0 bD
   have al:=bn.out.1
   have aj:=bn.out.2
   obtain ⟨f0,az,ay,aB⟩:=free4 al
   obtain ⟨u0,u1,u2,u3⟩:=free4 aj
   obtain ⟨z0,z1,z2,z3⟩:=cells4 (ZR _ wr) al
   obtain ⟨y0,y1,y2,y3⟩:=cells4 (ZR _ wr) aj
   have a9:=af.out.1
   have ap:=af.out.1.symm
   have ac:=two_put al aj af.out.1 af.out.2.2.2.1 af.out.2.2.2.2 HB9.out bm.out.1 bm.out.2
   have HF:=ZH ac.drew
   clear ac al aj
   go_region
   go_wp2_with fail
   exact bodyPost_ret (v:=.tuple #[.agg #[.bool s1,.slice a1 c1 l1,.bool s2,.slice a2 c2 l2],.agg #[.bool t1,.slice b1 d1 m1,.bool t2,.slice b2 d2 m2]]) (by simp[results,Tryz.results104,go_sem,z0,z1,z2,z3,y0,y1,y2,y3]) rfl ⟨_,_,rfl,by have h:=HF.out.r1; rw[HN.out.1] at h⊢; exact h,by have h:=HF.out.r2; rw[HN.out.1] at h⊢; exact h,HF.out.below⟩
end Go.Proofs.YtdgimcmappmjdaaGreatDoor

