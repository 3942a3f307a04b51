/- dimension.spread: the least and the greatest value of a form. -/
import Derived.Test.YtdgimcmappmjdaaGreatDoorKY
import Derived.Test.YtdgimcmappmjdaaGreatDoorK1
import Derived.RegionTactic
import Derived.ChangeAlike
set_option linter.unusedSimpArgs false
set_option linter.unusedVariables false
set_option maxRecDepth 100000
namespace Go.Proofs.YtdgimcmappmjdaaGreatDoor
open List renaming setIfInBounds_toArray → zLa, set_cons_zero → zLb, set_cons_succ → zLc
open FlowR renaming putSel → zFp
open Act renaming put → zAp
open Nat renaming zero_add → zNz
open Flow.Steps renaming cons → zSc, nil → zSn
open FlowR.Step renaming of → zSo
open Go.RowKit Go.Num Go.Flow
open Go.Gx (mn mx)
set_option maxHeartbeats 8000000
set_option linter.unusedVariables false

def dmFine (D:List Dm):Prop:=∀j,j<D.length→(-1000000000≤(D.getD j Dm.none).nominal∧(D.getD j Dm.none).nominal≤1000000000)∧(-1000000000≤(D.getD j Dm.none).lower∧(D.getD j Dm.none).lower≤1000000000)∧(-1000000000≤(D.getD j Dm.none).upper∧(D.getD j Dm.none).upper≤1000000000)
def boxes (D:List Dm):List (Rat×Rat):=D.map fun d=>(((d.nominal+d.lower:Int):Rat),((d.nominal+d.upper:Int):Rat))
theorem boxes_at {D:List Dm} {j:Nat} (h:j<D.length):(boxes D).getD j (0,0)=((((D.getD j Dm.none).nominal+(D.getD j Dm.none).lower:Int):Rat),(((D.getD j Dm.none).nominal+(D.getD j Dm.none).upper:Int):Rat)):=by
 unfold boxes
 rw[List.getD_eq_getElem?_getD,List.getElem?_map,List.getD_eq_getElem?_getD,List.getElem?_eq_getElem h]
 rfl
def spreadTo (D:List Dm) (c:List UInt8) (L:List (Nat×List UInt8)) (k:Nat):Rat×Rat:=(L.take k).foldl (spreadStep (boxes D)) (readVal c,readVal c)
theorem spreadTo_succ {D:List Dm} {c:List UInt8} {L:List (Nat×List UInt8)} {k:Nat} (h:k<L.length):spreadTo D c L (k+1)=spreadStep (boxes D) (spreadTo D c L k) (L.getD k (0,[])):=by
 unfold spreadTo
 rw[List.take_add_one,List.getElem?_eq_getElem h,List.foldl_append,List.getD_eq_getElem?_getD,List.getElem?_eq_getElem h]
 rfl
def SpreadPost (w:World) (D:List Dm) (c:List UInt8) (L:List (Nat×List UInt8)) (S:Nat) (e:Ending) (w':World):Prop:=((∀j,j<L.length→(L.getD j (0,[])).1<D.length)→∃lo hi,e=.returned (.tuple #[lo,hi,.int .i64 0])∧RtIn w' lo (spreadTo D c L L.length).1 ((S+2)+L.length*(S+6))∧RtIn w' hi (spreadTo D c L L.length).2 ((S+2)+L.length*(S+6)))∧((∃j,j<L.length∧D.length≤(L.getD j (0,[])).1)→e=.returned (.tuple #[.agg #[.bool false,.slice none 0 0,.bool false,.slice none 0 0],.agg #[.bool false,.slice none 0 0,.bool false,.slice none 0 0],.int .i64 13]))∧Below w.heap.size w w'
theorem mspread_any {w:World} (hg:Glob w) {v:Value} {c:List UInt8} {L:List (Nat×List UInt8)} (hf:FormAt w v c L) (hL:L.length≤1000) {ad:Option Addr} {cd:Nat} {D:List Dm} (hd:DimsIn w ad cd D)
  (hD:dmFine D)
  {S:Nat} (hc:c.length≤S) (hc0:readErr c 65536=0) (hS:S≤60000) (ht:∀j,j<L.length→(L.getD j (0,[])).2.length≤S∧readErr (L.getD j (0,[])).2 65536=0) (hb:(S+2)+(L.length+1)*(S+6)≤400000) :
  Calls Tryz.prog 71 #[v,.slice ad D.length cd] w (SpreadPost w D c L S):=by
 unfold SpreadPost
 obtain ⟨tv,rfl,ao,ca,rfl,cW,cK,cy⟩:=hf
 obtain ⟨n,hn⟩:∃n,n=L.length:=⟨_,rfl⟩
 obtain ⟨nd,bD⟩:∃n,n=D.length:=⟨_,rfl⟩
 obtain ⟨s,hs⟩:∃s:ByteArray,s=⟨c.toArray⟩:=⟨_,rfl⟩
 have bN:s.data.toList=c:=by rw[hs]
 obtain ⟨wa,bf,bl,bh,cO,cY,cu,cF,cg,k0,k1,k2⟩:=new_three w #[.string s,.slice ao n ca] #[.bool false,.slice none 0 0,.bool false,.slice none 0 0] #[.bool false,.slice none 0 0,.bool false,.slice none 0 0] 57 43 43
 have hcap:n≤ca∧ca≤9223372036854775807:=by rw[hn]; exact ⟨cW,cK⟩
 have cD:nd≤cd∧cd≤9223372036854775807:=by rw[bD]; exact ⟨hd.1,hd.2.1⟩
 have cJ:s.size≤4294967280:=by
  have h1:s.size=c.length:=by rw[hs]; simp[ByteArray.size]
  omega
 have HRD:=ZH (mread_any s cJ (hg.below cg) (by rw[bN]; exact hc0))
 have bZ:s.data.toList.length=c.length:=by rw[bN]
 have HSL:=ZH bN
 have HG:=ZH hg
 have HD:=ZH hd.2.2
 have HDB:=ZH hD
 have HTC:=ZH cy
 have HT:=ZH ht
 have cm:=ZH cg
 have bP:=ZH k0
 have cl:=ZH k1
 have cn:=ZH k2
 have ac:=ZH (show bl≠bh∧bf≠bl∧bf≠bh∧w.heap.size≤bl∧w.heap.size≤bh by omega)
 have HN:=ZH (ZN hn (ZN bD (ZN hL (ZN hS (ZN hb hc)))))
 have HW:=ZH (ZN cO (ZN cY (ZN cu cF)))
 rw[←hn,←bD,←hs]
 clear cO cY cu cF cg k0 k2 hg hd hD cW cK cy ht hL hS hb hc hc0 hs bN cJ bZ
 obtain ⟨s0,s1⟩:=cells2 (ZR _ wa) bP.out
 obtain ⟨z0,z1,z2,z3⟩:=cells4 (ZR _ wa) k1
 have f0:=ZF k1 0
 have f1:=ZF k1 1
 have f2:=ZF k1 2
 have f3:=ZF k1 3
 have hn1:n≤1000:=by have:=HN.out; omega
 clear hn bD k1
 go_enter Tryz.func71,Tryz.ntmps71
 go_upto_region 1 with fail
 rw[←HW.out.1,←HW.out.2.2.2,←HW.out.2.2.1,←HW.out.2.1]
 clear HW
 go_wp2_with fail
 refine HRD.out.mono ?_
 rintro e w1 ⟨v1,rfl,bJ,bI⟩
 rw[HSL.out] at bJ
 obtain ⟨p1,g1,aD,n1,p2,g2,aB,n2,rfl⟩:=rt_shape bJ
 have kl:=(bI.block bl (ZL cl.out)).trans cl.out
 have kh:=(bI.block bh (ZL cn.out)).trans cn.out
 have f0:=ZF kl 0
 have f1:=ZF kl 1
 have f2:=ZF kl 2
 have f3:=ZF kl 3
 have aT:=ZH (ZN bJ (ZN kl kh))
 have bL:=ZH bI
 clear z0 z1 z2 z3
 obtain ⟨z0,z1,z2,z3⟩:=cells4 (ZR _ w1) kl
 clear bJ bI s0 s1 kl kh
 go_upto_region 2 with fail
 obtain ⟨w2,bj⟩:∃x,x=(((w1.setCell ⟨bl,0,none⟩ (.bool p1)).setCell ⟨bl,1,none⟩ (.slice g1 aD n1)).setCell ⟨bl,2,none⟩ (.bool p2)).setCell ⟨bl,3,none⟩ (.slice g2 aB n2):=⟨_,rfl⟩
 rw[←bj]
 clear z0 z1 z2 z3
 have ax:But bl w1 w2:=by rw[bj]; exact But.set4 (b:=bl) w1 _ _ _ _
 have bW:w2.heap[bl]?=some (.cells #[.bool p1,.slice g1 aD n1,.bool p2,.slice g2 aB n2] 43 (0,0)):=by rw[bj]; exact four_set aT.out.2.1 _ _ _ _
 have aP:=(ax.block bh ac.out.1.symm (ZL aT.out.2.2)).trans aT.out.2.2
 have cs:=aT.out.1.but (nodig4 aT.out.2.1) ax
 have cG:Below w.heap.size w w2:=by
  rw[bj]
  exact ((((cm.out.trans (bL.out.mono cm.out.size)).setCell (p:=⟨bl,0,none⟩) ac.out.2.2.2.1 _).setCell (p:=⟨bl,1,none⟩) ac.out.2.2.2.1 _).setCell (p:=⟨bl,2,none⟩) ac.out.2.2.2.1 _).setCell (p:=⟨bl,3,none⟩) ac.out.2.2.2.1 _
 obtain ⟨z0,z1,z2,z3⟩:=cells4 (ZR _ w2) bW
 obtain ⟨y0,y1,y2,y3⟩:=cells4 (ZR _ w2) aP
 have f0:=ZF aP 0
 have f1:=ZF aP 1
 have f2:=ZF aP 2
 have f3:=ZF aP 3
 have cZ:=(ax.block bf ac.out.2.1 (Nat.lt_of_lt_of_le (ZL bP.out) bL.out.size)).trans ((bL.out.block bf (ZL bP.out)).trans bP.out)
 have aG:=ZH (ZN cs (ZN bW (ZN aP cZ)))
 have cr:=ZH cG
 clear bj ax bW aP cZ cs cG aT bL
 go_upto_region 3 with fail
 obtain ⟨w3,bi⟩:∃x,x=(((w2.setCell ⟨bh,0,none⟩ (.bool p1)).setCell ⟨bh,1,none⟩ (.slice g1 aD n1)).setCell ⟨bh,2,none⟩ (.bool p2)).setCell ⟨bh,3,none⟩ (.slice g2 aB n2):=⟨_,rfl⟩
 rw[←bi]
 have ax:But bh w2 w3:=by rw[bi]; exact But.set4 (b:=bh) w2 _ _ _ _
 have cV:w3.heap[bh]?=some (.cells #[.bool p1,.slice g1 aD n1,.bool p2,.slice g2 aB n2] 43 (0,0)):=by rw[bi]; exact four_set aG.out.2.2.1 _ _ _ _
 have cz:=(ax.block bl ac.out.1 (ZL aG.out.2.1)).trans aG.out.2.1
 have ck:=(ax.block bf ac.out.2.2.1 (ZL aG.out.2.2.2)).trans aG.out.2.2.2
 have cQ:=(aG.out.1.but (nodig4 aG.out.2.2.1) ax).more (show S+2≥c.length+2 by have:=HN.out; omega)
 have cU:Below w.heap.size w w3:=by
  rw[bi]
  exact (((cr.out.setCell (p:=⟨bh,0,none⟩) ac.out.2.2.2.2 _).setCell (p:=⟨bh,1,none⟩) ac.out.2.2.2.2 _).setCell (p:=⟨bh,2,none⟩) ac.out.2.2.2.2 _).setCell (p:=⟨bh,3,none⟩) ac.out.2.2.2.2 _
 obtain ⟨s0,s1⟩:=cells2 (ZR _ w3) ck
 have bC:=ZH (ZN cQ (ZN cz cV))
 have HB3:=ZH cU
 clear bi ax cV cz ck cQ cU aG cr z0 z1 z2 z3 y0 y1 y2 y3 f0 f1 f2 f3
 go_wp2_with fail
 clear s0 s1
 go_loopg [21] n (fun gk x wr=>∃k:Nat,k+gk=n∧x=.int .i64 k∧Hid (∃s1 a1 c1 l1 s2 a2 c2 l2 t1 b1 d1 m1 t2 b2 d2 m2,wr.heap[bl]?=some (.cells #[.bool s1,.slice a1 c1 l1,.bool s2,.slice a2 c2 l2] 43 (0,0))∧wr.heap[bh]?=some (.cells #[.bool t1,.slice b1 d1 m1,.bool t2,.slice b2 d2 m2] 43 (0,0))∧RtIn wr (.agg #[.bool s1,.slice a1 c1 l1,.bool s2,.slice a2 c2 l2]) (spreadTo D c L k).1 (S+2+k*(S+6))∧RtIn wr (.agg #[.bool t1,.slice b1 d1 m1,.bool t2,.slice b2 d2 m2]) (spreadTo D c L k).2 (S+2+k*(S+6)))∧Hid (∀j,j<k→(L.getD j (0,[])).1<D.length)∧Hid (Below w.heap.size w wr))
 case atStart=>exact ⟨0,by omega,rfl,ZH ⟨_,_,_,_,_,_,_,_,_,_,_,_,_,_,_,_,bC.out.2.1,bC.out.2.2,by rw[Nat.zero_mul]; exact bC.out.1,by rw[Nat.zero_mul]; exact bC.out.1⟩,ZH (fun j hj=>by omega),HB3⟩
 case round=>
  obtain ⟨k,hk,rfl,aI,a8,aS⟩:=hrel
  obtain ⟨s1,a1,c1,l1,s2,a2,c2,l2,t1,b1,d1,m1,t2,b2,d2,m2,bx,bK,bF,bu⟩:=aI.out
  by_cases hlt:k<n
  ·have e1:((k:Int)<(n:Int))=True:=eq_true (by omega)
   obtain ⟨g,o,rfl,-,cT⟩:=HTC.out (by have:=HN.out.1; omega)
   have hx:=cT k (by have:=HN.out.1; omega)
   have bp:=HT.out k (by have:=HN.out.1; omega)
   have bz:=spreadTo_succ (D:=D) (c:=c) (show k<L.length by have:=HN.out.1; omega)
   obtain ⟨⟨ti,tl⟩,bv⟩:∃x,x=L.getD k (0,[]):=⟨_,rfl⟩
   have cS:nd≤ti→∃j,j<n∧nd≤(L.getD j (0,[])).1:=fun h=>⟨k,hlt,by rw[←bv]; exact h⟩
   have bo:ti<nd→∀j,j<k+1→(L.getD j (0,[])).1<D.length:=fun h j hj=>by
    by_cases e:j<k
    ·exact a8.out j e
    ·obtain rfl:j=k:=by omega
     rw[←bv]
     have:=HN.out.2.1
     omega
   rw[←bv] at hx bp bz
   simp only[] at hx bp bz
   obtain ⟨tt,bd⟩:∃s:ByteArray,s=⟨tl.toArray⟩:=⟨_,rfl⟩
   rw[←bd] at hx
   have x0:=ZJ aS.out hx.1
   have x1:=ZJ aS.out hx.2
   obtain ⟨tq,bR⟩:∃x,x=readVal tl:=⟨_,rfl⟩
   have cc:=fun (W:World) (hgW:Glob W)=>mread_any tt (by
    have h1:tt.size=tl.length:=by rw[bd]; simp[ByteArray.size]
    have h2:=HN.out
    omega) hgW (by rw[bd]; exact bp.2)
   rw[show tt.data.toList=tl by rw[bd],←bR] at cc
   have bY:=ZH cc
   have bU:=ZH bz
   have bB:=ZH (ZN hlt (ZN bp.1 (ZN bR a8.out)))
   have bH:=ZH (ZN cS bo)
   have bn:=ZH (ZN bx bK)
   have bg:=ZH (ZN bF bu)
   have hk0:(0:Int)≤(k:Int):=by omega
   have hk1:(k:Int)<(n:Int):=by omega
   obtain ⟨va,cE⟩:∃x,x=spreadTo D c L k:=⟨_,rfl⟩
   rw[←cE] at bg bU
   obtain ⟨K0,cp⟩:∃x,x=S+2+k*(S+6):=⟨_,rfl⟩
   rw[←cp] at bg
   have ay:=ZH (show K0+(S+6)≤400000∧S+2+(k+1)*(S+6)=K0+(S+6)∧2≤K0 by
    have h1:=HN.out.2.2.2.2.1
    have h2:(k+1)*(S+6)≤(L.length+1)*(S+6):=Nat.mul_le_mul_right _ (by have h4:=HN.out.1; omega)
    rw[Nat.add_mul,Nat.one_mul] at h2⊢
    omega)
   clear cT hx bp bz bv bd bR cc hlt bx bK bF bu aI cE cp cS bo a8
   go_upto_region 6 with fail
   obtain ⟨w4,br⟩:∃x,x=wr.alloc (.cells #[.int .i64 (ti:Int),.string tt] 118):=⟨_,rfl⟩
   obtain ⟨bt,b3⟩:∃b,b=wr.heap.size:=⟨_,rfl⟩
   rw[←br,←b3]
   have a4:Below wr.heap.size wr w4:=by rw[br]; exact (ZR _ wr).alloc (Nat.le_refl _) _
   have kt:w4.heap[bt]?=some (.cells #[.int .i64 (ti:Int),.string tt] 118 (0,0)):=by rw[br,b3]; exact ZW wr _
   have ci:=ZH kt
   have aA:=ZH (aS.out.trans (a4.mono aS.out.size))
   have ae:=ZH (ZN ((a4.block bl (ZL bn.out.1)).trans bn.out.1) ((a4.block bh (ZL bn.out.2)).trans bn.out.2))
   have aR:=ZH (ZN (bg.out.1.below a4) (bg.out.2.below a4))
   obtain ⟨y0,y1⟩:=cells2 (ZR _ w4) kt
   clear br b3 a4 kt x0 x1 hk0 hk1 bn bg aS
   by_cases hti:ti<nd
   ·have e2:((nd:Int)≤(ti:Int))=False:=eq_false (by omega)
    obtain ⟨db,dof,rfl,-,cB⟩:=HD.out (by have:=HN.out.2.1; omega)
    have hx:=cB ti (by have:=HN.out.2.1; omega)
    have bX:=HDB.out ti (by have:=HN.out.2.1; omega)
    have aJ:=boxes_at (D:=D) (j:=ti) (by have:=HN.out.2.1; omega)
    obtain ⟨d,cC⟩:∃x,x=D.getD ti Dm.none:=⟨_,rfl⟩
    rw[←cC] at hx bX aJ
    have q0:=ZJ aA.out hx.1
    have q1:=ZJ aA.out hx.2.1
    have q2:=ZJ aA.out hx.2.2.1
    have q3:=ZJ aA.out hx.2.2.2
    have aO:=ZH (ZN bX (ZN aJ (bH.out.2 hti)))
    have ht0:(0:Int)≤(ti:Int):=by omega
    have ht1:(ti:Int)<(nd:Int):=by omega
    clear cB hx bX aJ cC hti bH
    go_upto_region 8 with fail
    go_wp2_with fail
    refine (bY.out w4 (HG.out.below aA.out)).mono ?_
    rintro e w5 ⟨v5,rfl,b9,cw⟩
    obtain ⟨u1,i1,j1,o1,u2,i2,j2,o2,rfl⟩:=rt_shape b9
    have cq:=ZH b9
    have bV:=ZH cw
    clear b9 cw y0 y1
    go_upto_region 9 with fail
    obtain ⟨w6,bO⟩:∃x,x=w5.alloc (.cells #[.bool u1,.slice i1 j1 o1,.bool u2,.slice i2 j2 o2] 43):=⟨_,rfl⟩
    obtain ⟨bk,bQ⟩:∃b,b=w5.heap.size:=⟨_,rfl⟩
    rw[←bO,←bQ]
    have b7:Below w5.heap.size w5 w6:=by rw[bO]; exact (ZR _ w5).alloc (Nat.le_refl _) _
    have kk:w6.heap[bk]?=some (.cells #[.bool u1,.slice i1 j1 o1,.bool u2,.slice i2 j2 o2] 43 (0,0)):=by rw[bO,bQ]; exact ZW w5 _
    have aM:Below w4.heap.size w4 w6:=bV.out.trans (b7.mono bV.out.size)
    have bG:=ZH (ZN kk ((cq.out.below b7).more (show tl.length+2≤S+2 by have:=bB.out.2.1; omega)))
    have b6:=ZH aM
    obtain ⟨FR,cI⟩:∃x,x=d.nominal+d.lower:=⟨_,rfl⟩
    obtain ⟨TO,cx⟩:∃x,x=d.nominal+d.upper:=⟨_,rfl⟩
    have bs:=mRange_any (W:=w6) d aO.out.1.1 aO.out.1.2.1 aO.out.1.2.2
    unfold dmV at bs
    have aJ:=aO.out.2.1
    rw[←cI,←cx] at bs aJ
    have bE:=ZH (show (-9223372036854775808≤FR∧FR≤9223372036854775807)∧(-9223372036854775808≤TO∧TO≤9223372036854775807) by have h:=aO.out.1; omega)
    have co:=ZH bs
    have cH:=ZH (ZN aJ aO.out.2.2)
    have q0:=ZJ aM q0
    have q1:=ZJ aM q1
    have q2:=ZJ aM q2
    have q3:=ZJ aM q3
    obtain ⟨y0,y1⟩:=cells2 aM ci.out
    clear bO bQ b7 kk aM cI cx bs aJ aO cq bV
    go_wp2_with fail
    refine co.out.mono ?_
    rintro e w7 ⟨rfl,bA⟩
    have aX:=b6.out.trans (bA.mono b6.out.size)
    have bq:=ZH (ZN ((bA.block bk (ZL bG.out.1)).trans bG.out.1) (bG.out.2.below bA))
    have af:=ZH (ZN ((aX.block bl (ZL ae.out.1)).trans ae.out.1) ((aX.block bh (ZL ae.out.2)).trans ae.out.2))
    have aL:=ZH (ZN (aR.out.1.below aX) (aR.out.2.below aX))
    have a6:=ZH (aA.out.trans (aX.mono aA.out.size))
    have az:=ZH (ZR w7.heap.size w7)
    clear y0 y1 q0 q1 q2 q3 bA aX co bG ae aR b6 ci aA
    go_upto_region 10 with fail
    refine FlowX.wp_region_mix (fun a b=>Below a.heap.size a b) (fun _ _ h=>h) [0,1,2,3,4,5,6,7,8,9] [true,true,true,true,true,true,true,true,true,true,false,false] (fun j9=>[8,9].contains j9) (fun i9 v w'=>match i9 with
     | 0=>v=.agg #[.bool u1,.slice i1 j1 o1,.bool u2,.slice i2 j2 o2]
     | 1=>v=.int .i64 FR
     | 2=>RtIn w' v (FR:Rat) 2
     | 3=>RtIn w' v (tq*(FR:Rat)) (S+2+2)
     | 4=>v=.agg #[.bool u1,.slice i1 j1 o1,.bool u2,.slice i2 j2 o2]
     | 5=>v=.int .i64 TO
     | 6=>RtIn w' v (TO:Rat) 2
     | 7=>RtIn w' v (tq*(TO:Rat)) (S+2+2)
     | 8=>True
     | _=>True) (FlowX.TwoBox w7.heap.size #[.bool false,.slice none 0 0,.bool false,.slice none 0 0] 43 8 9) rfl rfl (by kernel_rfl) (by kernel_rfl) (by kernel_rfl) (by kernel_rfl) ?st ?hX ?hX0 ?_ ?_
    case st=>
     intro i9 v u1 u2 h hb
     match i9 with
     | 0 | 1 | 4 | 5 | 8 | 9 | _+10=>exact h
     | 2 | 3 | 6 | 7=>exact RtIn.below h hb
    case hX=>exact fun L xs w L' xs' w' h he hb=>h.below (he 8 rfl) (he 9 rfl) hb
    case hX0=>exact fun xs=>FlowX.TwoBox.init _ _
    refine Flow.Steps.cons (.inl ⟨rfl,FlowX.StepS.of rfl ?s0⟩) (Flow.Steps.cons (.inl ⟨rfl,FlowX.StepS.of rfl ?s1⟩) (Flow.Steps.cons (.inl ⟨rfl,FlowX.StepS.of rfl ?s2⟩) (Flow.Steps.cons (.inl ⟨rfl,FlowX.StepS.of rfl ?s3⟩) (Flow.Steps.cons (.inl ⟨rfl,FlowX.StepS.of rfl ?s4⟩) (Flow.Steps.cons (.inl ⟨rfl,FlowX.StepS.of rfl ?s5⟩) (Flow.Steps.cons (.inl ⟨rfl,FlowX.StepS.of rfl ?s6⟩) (Flow.Steps.cons (.inl ⟨rfl,FlowX.StepS.of rfl ?s7⟩) (Flow.Steps.cons (.inr ⟨rfl,FlowX.StepX.of rfl ?s8⟩) (Flow.Steps.cons (.inr ⟨rfl,FlowX.StepX.of rfl ?s9⟩) zSn)))))))))
    case s0 | s4=>
     intro L9 xs w' hb hT ar K9 aa
     clear hT
     simp only[zFp,zAp,zLa,zLb,zLc,Nat.reduceAdd,zNz] at aa⊢
     have hw:=Flow.hwD az.out hb
     obtain ⟨y0,y1,y2,y3⟩:=cells4 hw bq.out.1
     go_simp
     exact aa _ _ (ZR _ _) rfl
    case s1 | s5=>
     intro L9 xs w' hb hT ar K9 aa
     clear hT
     simp only[zFp,zAp,zLa,zLb,zLc,Nat.reduceAdd,zNz] at aa⊢
     have hw:=Flow.hwD az.out hb
     go_simp
     exact aa _ _ (ZR _ _) rfl
    case s2=>
     intro L9 xs w' hb hT ar K9 aa
     have h1:(xs 1)=.int .i64 FR:=(hT 1 (by kernel_rfl)).2
     clear hT
     simp only[zFp,zAp,zLa,zLb,zLc,Nat.reduceAdd,zNz] at aa⊢
     have hw:=Flow.hwD az.out hb
     (try simp only[h1] at aa)
     go_simp
     go_at_call 23
     refine (ratFrom_any bE.out.1.1 bE.out.1.2).mono ?_
     rintro e w3 ⟨v3,rfl,ap,al⟩
     exact aa _ _ al ap
    case s3=>
     intro L9 xs w' hb hT ar K9 aa
     have h0:(xs 0)=.agg #[.bool u1,.slice i1 j1 o1,.bool u2,.slice i2 j2 o2]:=(hT 0 (by kernel_rfl)).2
     have h2:RtIn w' (xs 2) (FR:Rat) 2:=(hT 2 (by kernel_rfl)).2
     clear hT
     simp only[zFp,zAp,zLa,zLb,zLc,Nat.reduceAdd,zNz] at aa⊢
     have hw:=Flow.hwD az.out hb
     (try simp only[h0] at aa)
     go_simp
     go_at_call 74
     refine (ratMul_any (bq.out.2.below hw) h2 (by omega) (by omega) (by have:=ay.out; omega)).mono ?_
     rintro e w3 ⟨v3,rfl,ap,al⟩
     exact aa _ _ al ap
    case s6=>
     intro L9 xs w' hb hT ar K9 aa
     have h5:(xs 5)=.int .i64 TO:=(hT 5 (by kernel_rfl)).2
     clear hT
     simp only[zFp,zAp,zLa,zLb,zLc,Nat.reduceAdd,zNz] at aa⊢
     have hw:=Flow.hwD az.out hb
     (try simp only[h5] at aa)
     go_simp
     go_at_call 23
     refine (ratFrom_any bE.out.2.1 bE.out.2.2).mono ?_
     rintro e w3 ⟨v3,rfl,ap,al⟩
     exact aa _ _ al ap
    case s7=>
     intro L9 xs w' hb hT ar K9 aa
     have h4:(xs 4)=.agg #[.bool u1,.slice i1 j1 o1,.bool u2,.slice i2 j2 o2]:=(hT 4 (by kernel_rfl)).2
     have h6:RtIn w' (xs 6) (TO:Rat) 2:=(hT 6 (by kernel_rfl)).2
     clear hT
     simp only[zFp,zAp,zLa,zLb,zLc,Nat.reduceAdd,zNz] at aa⊢
     have hw:=Flow.hwD az.out hb
     (try simp only[h4] at aa)
     go_simp
     go_at_call 74
     refine (ratMul_any (bq.out.2.below hw) h6 (by omega) (by omega) (by have:=ay.out; omega)).mono ?_
     rintro e w3 ⟨v3,rfl,ap,al⟩
     exact aa _ _ al ap
    case s8=>
     intro L9 xs w' hb hT ar hL9 K9 aa
     clear hT
     simp only[zFp,zAp,zLa,zLb,zLc,Nat.reduceAdd,zNz] at aa⊢
     have hw:=Flow.hwD az.out hb
     go_simp
     exact aa _ _ (hb.alloc hb.size _) ((ZR _ _).alloc (Nat.le_refl _) _) trivial (ar.make1 hb.size (by decide))
    case s9=>
     intro L9 xs w' hb hT ar hL9 K9 aa
     clear hT
     simp only[zFp,zAp,zLa,zLb,zLc,Nat.reduceAdd,zNz] at aa⊢
     have hw:=Flow.hwD az.out hb
     go_simp
     exact aa _ _ (hb.alloc hb.size _) ((ZR _ _).alloc (Nat.le_refl _) _) trivial (ar.make2 hb.size (by decide))
    intro xs w' hb hT ar
    have hw:=Flow.hwD az.out hb
    have h3:RtIn w' (xs 3) (tq*(FR:Rat)) (S+2+2):=hT 3 (by rfl)
    have h7:RtIn w' (xs 7) (tq*(TO:Rat)) (S+2+2):=hT 7 (by rfl)
    clear hT
    simp only[zFp,zAp,zLa,zLb,zLc,Nat.reduceAdd,zNz,FlowR.restL]
    obtain ⟨ba,bb,e8,e9,aQ,aH,aF,ka,kb⟩:=ar.both (by rfl) (by rfl)
    obtain ⟨aZ,g3,i3,j3,aV,g4,i4,j4,e3⟩:=rt_shape h3
    obtain ⟨a3,g5,i5,j5,aU,g6,i6,j6,e7⟩:=rt_shape h7
    rw[e3] at h3
    rw[e7] at h7
    simp only[e3,e7,e8,e9]
    clear e3 e7 e8 e9 ar
    have f0:=ZF ka 0
    have aD:=ZF ka 1
    have aB:=ZF ka 2
    have f3:=ZF ka 3
    obtain ⟨b8,b4,ce,cf⟩:=cells4 (ZR _ w') ka
    obtain ⟨ch,bT,cb,b5⟩:=cells4 (ZR _ w') kb
    have o0:=ZF kb 0
    have bw:=ZF kb 1
    have bM:=ZF kb 2
    have o3:=ZF kb 3
    have ai:=ZH (ZN aQ (ZN aH (ZN aF (ZN ka kb))))
    have b0:=ZH (ZN h3 h7)
    have aE:=ZH hw
    have aw:=aQ.symm
    clear h3 h7 ka kb aH aF hb hw
    go_upto_region 11 with fail
    obtain ⟨wc,an⟩:∃x,x=(((w'.setCell ⟨ba,0,none⟩ (.bool aZ)).setCell ⟨ba,1,none⟩ (.slice g3 i3 j3)).setCell ⟨ba,2,none⟩ (.bool aV)).setCell ⟨ba,3,none⟩ (.slice g4 i4 j4):=⟨_,rfl⟩
    rw[←an]
    obtain ⟨w8,bc⟩:∃x,x=(((wc.setCell ⟨bb,0,none⟩ (.bool a3)).setCell ⟨bb,1,none⟩ (.slice g5 i5 j5)).setCell ⟨bb,2,none⟩ (.bool aU)).setCell ⟨bb,3,none⟩ (.slice g6 i6 j6):=⟨_,rfl⟩
    rw[←bc]
    have ag:But ba w' wc:=by rw[an]; exact But.set4 (b:=ba) w' _ _ _ _
    have ah:But bb wc w8:=by rw[bc]; exact But.set4 (b:=bb) wc _ _ _ _
    have aN:wc.heap[ba]?=some (.cells #[.bool aZ,.slice g3 i3 j3,.bool aV,.slice g4 i4 j4] 43 (0,0)):=by rw[an]; exact four_set ai.out.2.2.2.1 _ _ _ _
    have am:=(ag.block bb ai.out.1.symm (ZL ai.out.2.2.2.2)).trans ai.out.2.2.2.2
    have av:w8.heap[bb]?=some (.cells #[.bool a3,.slice g5 i5 j5,.bool aU,.slice g6 i6 j6] 43 (0,0)):=by rw[bc]; exact four_set am _ _ _ _
    have au:=(ah.block ba ai.out.1 (ZL aN)).trans aN
    have a7:=ZH (ZN au av)
    have aC:=ZH (ZN ((b0.out.1.but (nodig4 ai.out.2.2.2.1) ag).but (nodig4 am) ah) ((b0.out.2.but (nodig4 ai.out.2.2.2.1) ag).but (nodig4 am) ah))
    have aW:=(aE.out.block bl (ZL af.out.1)).trans af.out.1
    have a0:=(aE.out.block bh (ZL af.out.2)).trans af.out.2
    have cP:bl≠ba:=by have:=ZL af.out.1; have:=ai.out.2.1; omega
    have cR:bl≠bb:=by have:=ZL af.out.1; have:=ai.out.2.2.1; omega
    have cL:bh≠ba:=by have:=ZL af.out.2; have:=ai.out.2.1; omega
    have cv:bh≠bb:=by have:=ZL af.out.2; have:=ai.out.2.2.1; omega
    have aW:=(ag.block bl cP (ZL aW)).trans aW
    have a0:=(ag.block bh cL (ZL a0)).trans a0
    have aq:=ZH (ZN ((ah.block bl cR (ZL aW)).trans aW) ((ah.block bh cv (ZL a0)).trans a0))
    have bm:=ZH (ZN (((aL.out.1.below aE.out).but (nodig4 ai.out.2.2.2.1) ag).but (nodig4 am) ah) (((aL.out.2.below aE.out).but (nodig4 ai.out.2.2.2.1) ag).but (nodig4 am) ah))
    have aH:w.heap.size≤ba:=Nat.le_trans a6.out.size ai.out.2.1
    have aF:w.heap.size≤bb:=Nat.le_trans a6.out.size ai.out.2.2.1
    have cX:=ZH (show Below w.heap.size w w8 by
     rw[bc,an]
     exact ((((((((a6.out.trans (aE.out.mono a6.out.size)).setCell (p:=⟨ba,0,none⟩) aH _).setCell (p:=⟨ba,1,none⟩) aH _).setCell (p:=⟨ba,2,none⟩) aH _).setCell (p:=⟨ba,3,none⟩) aH _).setCell (p:=⟨bb,0,none⟩) aF _).setCell (p:=⟨bb,1,none⟩) aF _).setCell (p:=⟨bb,2,none⟩) aF _).setCell (p:=⟨bb,3,none⟩) aF _)
    have aY:=ZH (ZR w8.heap.size w8)
    clear an bc ag ah aN am av au aW a0 cP cR cL cv aH aF aE b0 ai f0 aD aB f3 o0 bw bM o3 b8 b4 ce cf ch bT cb b5 aQ aw az af aL bq a6
    refine FlowR.wp_region_sel (fun a b=>Below a.heap.size a b) (fun a=>ZR _ a) (fun _ _ _ h k=>h.trans (k.mono h.size)) [0,1,2,3,4,5,6,7,8,9] [false,false,false,false,false,false,false,false,false,false,false,false] [true,true,true,true,true,true,true,true,true,true,false,false] (fun i9 v w'=>match i9 with
     | 0=>v=.agg #[.bool s1,.slice a1 c1 l1,.bool s2,.slice a2 c2 l2]
     | 1=>v=.agg #[.bool aZ,.slice g3 i3 j3,.bool aV,.slice g4 i4 j4]
     | 2=>v=.agg #[.bool a3,.slice g5 i5 j5,.bool aU,.slice g6 i6 j6]
     | 3=>RtIn w' v (mn (tq*(FR:Rat)) (tq*(TO:Rat))) (S+2+2)
     | 4=>RtIn w' v (va.1+mn (tq*(FR:Rat)) (tq*(TO:Rat))) (K0+(S+2+2)+1)
     | 5=>v=.agg #[.bool t1,.slice b1 d1 m1,.bool t2,.slice b2 d2 m2]
     | 6=>v=.agg #[.bool aZ,.slice g3 i3 j3,.bool aV,.slice g4 i4 j4]
     | 7=>v=.agg #[.bool a3,.slice g5 i5 j5,.bool aU,.slice g6 i6 j6]
     | 8=>RtIn w' v (mx (tq*(FR:Rat)) (tq*(TO:Rat))) (S+2+2)
     | _=>RtIn w' v (va.2+mx (tq*(FR:Rat)) (tq*(TO:Rat))) (K0+(S+2+2)+1)) rfl rfl (by kernel_rfl) (by kernel_rfl) (by kernel_rfl) (by kernel_rfl) ?st ?_ ?_
    case st=>
     intro i9 v u1 u2 h hb
     match i9 with
     | 0 | 1 | 2 | 5 | 6 | 7=>exact h
     | 3 | 4 | 8 | 9 | _+10=>exact RtIn.below h hb
    refine zSc (zSo rfl ?s0) (zSc (zSo rfl ?s1) (zSc (zSo rfl ?s2) (zSc (zSo rfl ?s3) (zSc (zSo rfl ?s4) (zSc (zSo rfl ?s5) (zSc (zSo rfl ?s6) (zSc (zSo rfl ?s7) (zSc (zSo rfl ?s8) (zSc (zSo rfl ?s9) zSn)))))))))
    case s0 | s1 | s2 | s5 | s6 | s7=>
     intro xs w' hb hT K9 aa
     clear hT
     simp only[zFp,zAp,zLa,zLb,zLc,Nat.reduceAdd,zNz] at aa⊢
     have hw:=Flow.hwD aY.out hb
     obtain ⟨y0,y1,y2,y3⟩:=cells4 hw aq.out.1
     obtain ⟨z0,z1,z2,z3⟩:=cells4 hw a7.out.1
     obtain ⟨u0,u1,u2,u3⟩:=cells4 hw a7.out.2
     obtain ⟨v0,v1,v2,v3⟩:=cells4 hw aq.out.2
     go_simp
     exact aa _ _ (ZR _ _) rfl
    case s3=>
     intro xs w' hb hT K9 aa
     have h1:(xs 1)=.agg #[.bool aZ,.slice g3 i3 j3,.bool aV,.slice g4 i4 j4]:=hT 1 (by kernel_rfl)
     have h2:(xs 2)=.agg #[.bool a3,.slice g5 i5 j5,.bool aU,.slice g6 i6 j6]:=hT 2 (by kernel_rfl)
     clear hT
     simp only[zFp,zAp,zLa,zLb,zLc,Nat.reduceAdd,zNz] at aa⊢
     have hw:=Flow.hwD aY.out hb
     (try simp only[h1] at aa)
     (try simp only[h2] at aa)
     go_simp
     go_at_call 75
     refine (ratMin_any (aC.out.1.below hw) (aC.out.2.below hw) (by omega) (by have:=ay.out; omega)).mono ?_
     rintro e w3 ⟨v3,rfl,ap,al⟩
     exact aa _ _ al ap
    case s4=>
     intro xs w' hb hT K9 aa
     have h0:(xs 0)=.agg #[.bool s1,.slice a1 c1 l1,.bool s2,.slice a2 c2 l2]:=hT 0 (by kernel_rfl)
     have h3:RtIn w' (xs 3) (mn (tq*(FR:Rat)) (tq*(TO:Rat))) (S+2+2):=hT 3 (by kernel_rfl)
     clear hT
     simp only[zFp,zAp,zLa,zLb,zLc,Nat.reduceAdd,zNz] at aa⊢
     have hw:=Flow.hwD aY.out hb
     (try simp only[h0] at aa)
     go_simp
     go_at_call 79
     refine (ratAdd_any (bm.out.1.below hw) h3 ay.out.2.2 (by omega) (by have:=ay.out; omega)).mono ?_
     rintro e w3 ⟨v3,rfl,ap,al⟩
     exact aa _ _ al ap
    case s8=>
     intro xs w' hb hT K9 aa
     have h6:(xs 6)=.agg #[.bool aZ,.slice g3 i3 j3,.bool aV,.slice g4 i4 j4]:=hT 6 (by kernel_rfl)
     have h7:(xs 7)=.agg #[.bool a3,.slice g5 i5 j5,.bool aU,.slice g6 i6 j6]:=hT 7 (by kernel_rfl)
     clear hT
     simp only[zFp,zAp,zLa,zLb,zLc,Nat.reduceAdd,zNz] at aa⊢
     have hw:=Flow.hwD aY.out hb
     (try simp only[h6] at aa)
     (try simp only[h7] at aa)
     go_simp
     go_at_call 76
     refine (ratMax_any (aC.out.1.below hw) (aC.out.2.below hw) (by omega) (by have:=ay.out; omega)).mono ?_
     rintro e w3 ⟨v3,rfl,ap,al⟩
     exact aa _ _ al ap
    case s9=>
     intro xs w' hb hT K9 aa
     have h5:(xs 5)=.agg #[.bool t1,.slice b1 d1 m1,.bool t2,.slice b2 d2 m2]:=hT 5 (by kernel_rfl)
     have h8:RtIn w' (xs 8) (mx (tq*(FR:Rat)) (tq*(TO:Rat))) (S+2+2):=hT 8 (by kernel_rfl)
     clear hT
     simp only[zFp,zAp,zLa,zLb,zLc,Nat.reduceAdd,zNz] at aa⊢
     have hw:=Flow.hwD aY.out hb
     (try simp only[h5] at aa)
     go_simp
     go_at_call 79
     refine (ratAdd_any (bm.out.2.below hw) h8 ay.out.2.2 (by omega) (by have:=ay.out; omega)).mono ?_
     rintro e w3 ⟨v3,rfl,ap,al⟩
     exact aa _ _ al ap
    intro xs w' hb hT
    have hw:=Flow.hwD aY.out hb
    have h4:RtIn w' (xs 4) (va.1+mn (tq*(FR:Rat)) (tq*(TO:Rat))) (K0+(S+2+2)+1):=hT 4 (by rfl)
    have h9:RtIn w' (xs 9) (va.2+mx (tq*(FR:Rat)) (tq*(TO:Rat))) (K0+(S+2+2)+1):=hT 9 (by rfl)
    clear hT
    simp only[zFp,zAp,zLa,zLb,zLc,Nat.reduceAdd,zNz,FlowR.restL,FlowR.orM,Bool.false_or]
    obtain ⟨ct,g7,i7,j7,cN,g8,i8,j8,e4⟩:=rt_shape h4
    obtain ⟨cj,g9,i9,j9,cA,gx,ix,jx,e9⟩:=rt_shape h9
    rw[e4] at h4
    rw[e9] at h9
    simp only[e4,e9]
    clear e4 e9
    have aj:=(hw.block bl (ZL aq.out.1)).trans aq.out.1
    have ak:=(hw.block bh (ZL aq.out.2)).trans aq.out.2
    have f0:=ZF aj 0
    have aD:=ZF aj 1
    have aB:=ZF aj 2
    have f3:=ZF aj 3
    obtain ⟨b8,b4,ce,cf⟩:=cells4 (ZR _ w') aj
    obtain ⟨ch,bT,cb,b5⟩:=cells4 (ZR _ w') ak
    have o0:=ZF ak 0
    have bw:=ZF ak 1
    have bM:=ZF ak 2
    have o3:=ZF ak 3
    have aQ:=ac.out.1
    have aw:=ac.out.1.symm
    have aK:=ZH (ZN h4 (ZN h9 (ZN aj ak)))
    have aE:=ZH hw
    clear h4 h9 aj ak hb hw
    go_upto_region 12 with fail
    obtain ⟨wc,an⟩:∃x,x=(((w'.setCell ⟨bl,0,none⟩ (.bool ct)).setCell ⟨bl,1,none⟩ (.slice g7 i7 j7)).setCell ⟨bl,2,none⟩ (.bool cN)).setCell ⟨bl,3,none⟩ (.slice g8 i8 j8):=⟨_,rfl⟩
    rw[←an]
    obtain ⟨wd,a9⟩:∃x,x=(((wc.setCell ⟨bh,0,none⟩ (.bool cj)).setCell ⟨bh,1,none⟩ (.slice g9 i9 j9)).setCell ⟨bh,2,none⟩ (.bool cA)).setCell ⟨bh,3,none⟩ (.slice gx ix jx):=⟨_,rfl⟩
    rw[←a9]
    have ag:But bl w' wc:=by rw[an]; exact But.set4 (b:=bl) w' _ _ _ _
    have ah:But bh wc wd:=by rw[a9]; exact But.set4 (b:=bh) wc _ _ _ _
    have aN:wc.heap[bl]?=some (.cells #[.bool ct,.slice g7 i7 j7,.bool cN,.slice g8 i8 j8] 43 (0,0)):=by rw[an]; exact four_set aK.out.2.2.1 _ _ _ _
    have am:=(ag.block bh ac.out.1.symm (ZL aK.out.2.2.2)).trans aK.out.2.2.2
    have av:wd.heap[bh]?=some (.cells #[.bool cj,.slice g9 i9 j9,.bool cA,.slice gx ix jx] 43 (0,0)):=by rw[a9]; exact four_set am _ _ _ _
    have au:=(ah.block bl ac.out.1 (ZL aN)).trans aN
    have r1:=((aK.out.1.but (nodig4 aK.out.2.2.1) ag).but (nodig4 am) ah).more (show K0+(S+2+2)+1≤S+2+(k+1)*(S+6) by have:=ay.out; omega)
    have r2:=((aK.out.2.1.but (nodig4 aK.out.2.2.1) ag).but (nodig4 am) ah).more (show K0+(S+2+2)+1≤S+2+(k+1)*(S+6) by have:=ay.out; omega)
    have cM:spreadTo D c L (k+1)=(va.1+mn (tq*(FR:Rat)) (tq*(TO:Rat)),va.2+mx (tq*(FR:Rat)) (tq*(TO:Rat))):=by
     rw[bU.out]
     unfold spreadStep
     rw[cH.out.1,←bB.out.2.2.1]
    have HB9:=ZH (show Below w.heap.size w wd by
     rw[a9,an]
     exact ((((((((cX.out.trans (aE.out.mono cX.out.size)).setCell (p:=⟨bl,0,none⟩) ac.out.2.2.2.1 _).setCell (p:=⟨bl,1,none⟩) ac.out.2.2.2.1 _).setCell (p:=⟨bl,2,none⟩) ac.out.2.2.2.1 _).setCell (p:=⟨bl,3,none⟩) ac.out.2.2.2.1 _).setCell (p:=⟨bh,0,none⟩) ac.out.2.2.2.2 _).setCell (p:=⟨bh,1,none⟩) ac.out.2.2.2.2 _).setCell (p:=⟨bh,2,none⟩) ac.out.2.2.2.2 _).setCell (p:=⟨bh,3,none⟩) ac.out.2.2.2.2 _)
    have HF:=ZH (ZN au (ZN av (ZN r1 (ZN r2 cM))))
    clear an a9 ag ah aN am av au r1 r2 cM f0 aD aB f3 o0 bw bM o3 b8 b4 ce cf ch bT cb b5 aQ aw
    go_wp2_with fail
    go_roundg (n-(k+1))
    case measure=>have:=bB.out.1; omega
    case rel=>exact ⟨k+1,by have:=bB.out.1; omega,by congr 1,ZH ⟨_,_,_,_,_,_,_,_,_,_,_,_,_,_,_,_,HF.out.1,HF.out.2.1,by rw[HF.out.2.2.2.2]; exact HF.out.2.2.1,by rw[HF.out.2.2.2.2]; exact HF.out.2.2.2.1⟩,ZH cH.out.2,HB9⟩
   ·have e2:((nd:Int)≤(ti:Int))=True:=eq_true (by omega)
    have ax:∀(W:World),But bh W ((((W.setCell ⟨bh,0,none⟩ (.bool false)).setCell ⟨bh,1,none⟩ (.slice none 0 0)).setCell ⟨bh,2,none⟩ (.bool false)).setCell ⟨bh,3,none⟩ (.slice none 0 0)):=fun W=>But.set4 (b:=bh) W _ _ _ _
    have l0:=ZF ae.out.1 0
    have l1':=ZF ae.out.1 1
    have l2':=ZF ae.out.1 2
    have l3:=ZF ae.out.1 3
    have r0:=ZF ae.out.2 0
    have r1:=ZF ae.out.2 1
    have r2:=ZF ae.out.2 2
    have r3:=ZF ae.out.2 3
    obtain ⟨z0,z1,z2,z3⟩:=cells4 (ZR _ w4) ae.out.1
    obtain ⟨q0,q1,q2,q3⟩:=cells4 (ZR _ w4) ae.out.2
    have aQ:=ac.out.1
    have aw:=ac.out.1.symm
    have bS:=ZH ((((((((aA.out.setCell (p:=⟨bl,0,none⟩) ac.out.2.2.2.1 (.bool false)).setCell (p:=⟨bl,1,none⟩) ac.out.2.2.2.1 (.slice none 0 0)).setCell (p:=⟨bl,2,none⟩) ac.out.2.2.2.1 (.bool false)).setCell (p:=⟨bl,3,none⟩) ac.out.2.2.2.1 (.slice none 0 0)).setCell (p:=⟨bh,0,none⟩) ac.out.2.2.2.2 (.bool false)).setCell (p:=⟨bh,1,none⟩) ac.out.2.2.2.2 (.slice none 0 0)).setCell (p:=⟨bh,2,none⟩) ac.out.2.2.2.2 (.bool false)).setCell (p:=⟨bh,3,none⟩) ac.out.2.2.2.2 (.slice none 0 0))
    have HNN:=ZH (bH.out.1 (by omega))
    clear hti bH bU
    go_wp2_with fail
    refine bodyPost_ret (v:=.tuple #[.agg #[.bool false,.slice none 0 0,.bool false,.slice none 0 0],.agg #[.bool false,.slice none 0 0,.bool false,.slice none 0 0],.int .i64 13]) (by simp[results,Tryz.results71,go_sem,z0,z1,z2,z3,q0,q1,q2,q3]) rfl ⟨fun h=>?_,fun _=>rfl,bS.out⟩
    obtain ⟨j,h1,h2⟩:=HNN.out
    have h3:=h j h1
    omega
  ·have e1:((k:Int)<(n:Int))=False:=eq_false (by omega)
   obtain rfl:k=n:=by omega
   have a5:=ZH (ZN bx bK)
   have be:=ZH (ZN bF bu)
   have HOK:=ZH a8.out
   have HBE:=ZH aS.out
   clear aI a8 bx bK bF bu aS
   go_upto_region 13 with fail
   have aj:=a5.out.1
   have ak:=a5.out.2
   have f0:=ZF aj 0
   have aD:=ZF aj 1
   have aB:=ZF aj 2
   have f3:=ZF aj 3
   have o0:=ZF ak 0
   have bw:=ZF ak 1
   have bM:=ZF ak 2
   have o3:=ZF ak 3
   obtain ⟨z0,z1,z2,z3⟩:=cells4 (ZR _ wr) aj
   obtain ⟨q0,q1,q2,q3⟩:=cells4 (ZR _ wr) ak
   have aQ:=ac.out.1
   have aw:=ac.out.1.symm
   obtain ⟨wc,an⟩:∃x,x=(((wr.setCell ⟨bl,0,none⟩ (.bool s1)).setCell ⟨bl,1,none⟩ (.slice a1 c1 l1)).setCell ⟨bl,2,none⟩ (.bool s2)).setCell ⟨bl,3,none⟩ (.slice a2 c2 l2):=⟨_,rfl⟩
   have ag:But bl wr wc:=by rw[an]; exact But.set4 (b:=bl) wr _ _ _ _
   have am:=(ag.block bh ac.out.1.symm (ZL ak)).trans ak
   have ah:=But.set4 (b:=bh) wc (.bool t1) (.slice b1 d1 m1) (.bool t2) (.slice b2 d2 m2)
   have r1:=((be.out.1.but (nodig4 aj) ag).but (nodig4 am) ah).below (ZR _ _).drew
   have r2:=((be.out.2.but (nodig4 aj) ag).but (nodig4 am) ah).below (ZR _ _).drew
   rw[an] at r1 r2
   have HF:=ZH (ZN r1 r2)
   have bS:=ZH (((((((((HBE.out.setCell (p:=⟨bl,0,none⟩) ac.out.2.2.2.1 (.bool s1)).setCell (p:=⟨bl,1,none⟩) ac.out.2.2.2.1 (.slice a1 c1 l1)).setCell (p:=⟨bl,2,none⟩) ac.out.2.2.2.1 (.bool s2)).setCell (p:=⟨bl,3,none⟩) ac.out.2.2.2.1 (.slice a2 c2 l2)).setCell (p:=⟨bh,0,none⟩) ac.out.2.2.2.2 (.bool t1)).setCell (p:=⟨bh,1,none⟩) ac.out.2.2.2.2 (.slice b1 d1 m1)).setCell (p:=⟨bh,2,none⟩) ac.out.2.2.2.2 (.bool t2)).setCell (p:=⟨bh,3,none⟩) ac.out.2.2.2.2 (.slice b2 d2 m2)).drew)
   clear aj ak ag ah am r1 r2 an
   go_region
   go_wp2_with fail
   refine bodyPost_ret (v:=.tuple #[.agg #[.bool s1,.slice a1 c1 l1,.bool s2,.slice a2 c2 l2],.agg #[.bool t1,.slice b1 d1 m1,.bool t2,.slice b2 d2 m2],.int .i64 0]) (by simp[results,Tryz.results71,go_sem,z0,z1,z2,z3,q0,q1,q2,q3]) rfl ⟨fun _=>⟨_,_,rfl,HF.out⟩,fun h=>?_,bS.out⟩
   obtain ⟨j,h1,h2⟩:=h
   have h3:=HOK.out j h1
   have:=HN.out.2.1
   omega
end Go.Proofs.YtdgimcmappmjdaaGreatDoor

