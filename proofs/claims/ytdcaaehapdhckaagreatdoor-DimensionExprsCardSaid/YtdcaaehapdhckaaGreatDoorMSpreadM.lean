/- dimension.spread: the least and the greatest value of a form. -/
import Derived.Test.YtdcaaehapdhckaaGreatDoorKZ
import Derived.Test.YtdcaaehapdhckaaGreatDoorKY
import Derived.Test.YtdcaaehapdhckaaGreatDoorKW
import Derived.Test.YtdcaaehapdhckaaGreatDoorKE
import Derived.Test.YtdcaaehapdhckaaGreatDoorK1
import Derived.RegionTactic
import Derived.ChangeAlike
set_option linter.unusedSimpArgs false
set_option linter.unusedVariables false
set_option maxRecDepth 100000
namespace Go.Proofs.YtdcaaehapdhckaaGreatDoor
open List renaming setIfInBounds_toArray → zLa, set_cons_zero → zLb, set_cons_succ → zLc
open FlowR renaming putSel → zFp
open Act renaming put → zAp
open Nat renaming zero_add → zNz
open Flow.Steps renaming cons → zSc, nil → zSn
open FlowR.Step renaming of → zSo
open Go.RowKit Go.Num Go.Flow
open Go.Gx (mn mx)
set_option maxHeartbeats 8000000
set_option linter.unusedVariables false

def dmFine (D:List Dm):Prop:=∀j,j<D.length→(-1000000000≤(D.getD j Dm.none).nominal∧(D.getD j Dm.none).nominal≤1000000000)∧(-1000000000≤(D.getD j Dm.none).lower∧(D.getD j Dm.none).lower≤1000000000)∧(-1000000000≤(D.getD j Dm.none).upper∧(D.getD j Dm.none).upper≤1000000000)
def boxes (D:List Dm):List (Rat×Rat):=D.map fun d=>(((d.nominal+d.lower:Int):Rat),((d.nominal+d.upper:Int):Rat))
theorem boxes_at {D:List Dm} {j:Nat} (h:j<D.length):(boxes D).getD j (0,0)=((((D.getD j Dm.none).nominal+(D.getD j Dm.none).lower:Int):Rat),(((D.getD j Dm.none).nominal+(D.getD j Dm.none).upper:Int):Rat)):=by
 unfold boxes
 rw[List.getD_eq_getElem?_getD,List.getElem?_map,List.getD_eq_getElem?_getD,List.getElem?_eq_getElem h]
 rfl
def spreadTo (D:List Dm) (c:List UInt8) (L:List (Nat×List UInt8)) (k:Nat):Rat×Rat:=(L.take k).foldl (spreadStep (boxes D)) (readVal c,readVal c)
theorem spreadTo_succ {D:List Dm} {c:List UInt8} {L:List (Nat×List UInt8)} {k:Nat} (h:k<L.length):spreadTo D c L (k+1)=spreadStep (boxes D) (spreadTo D c L k) (L.getD k (0,[])):=by
 unfold spreadTo
 rw[List.take_add_one,List.getElem?_eq_getElem h,List.foldl_append,List.getD_eq_getElem?_getD,List.getElem?_eq_getElem h]
 rfl
def SpreadPost (w:World) (D:List Dm) (c:List UInt8) (L:List (Nat×List UInt8)) (S:Nat) (e:Ending) (w':World):Prop:=((∀j,j<L.length→(L.getD j (0,[])).1<D.length)→∃lo hi,e=.returned (.tuple #[lo,hi,.int .i64 0])∧RtIn w' lo (spreadTo D c L L.length).1 ((S+2)+L.length*(S+6))∧RtIn w' hi (spreadTo D c L L.length).2 ((S+2)+L.length*(S+6)))∧((∃j,j<L.length∧D.length≤(L.getD j (0,[])).1)→e=.returned (.tuple #[.agg #[.bool false,.slice none 0 0,.bool false,.slice none 0 0],.agg #[.bool false,.slice none 0 0,.bool false,.slice none 0 0],.int .i64 13]))∧Below w.heap.size w w'
theorem mspread_any {w:World} (hg:Glob w) {v:Value} {c:List UInt8} {L:List (Nat×List UInt8)} (hf:FormAt w v c L) (hL:L.length≤1000) {ad:Option Addr} {cd:Nat} {D:List Dm} (hd:DimsIn w ad cd D)
  (hD:dmFine D)
  {S:Nat} (hc:c.length≤S) (hc0:readErr c 65536=0) (hS:S≤60000) (ht:∀j,j<L.length→(L.getD j (0,[])).2.length≤S∧readErr (L.getD j (0,[])).2 65536=0) (hb:(S+2)+(L.length+1)*(S+6)≤400000) :
  Calls Tryz.prog 75 #[v,.slice ad D.length cd] w (SpreadPost w D c L S):=by
 unfold SpreadPost
 obtain ⟨tv,rfl,ao,ca,rfl,hta,htb,htc⟩:=hf
 obtain ⟨n,hn⟩:∃n,n=L.length:=⟨_,rfl⟩
 obtain ⟨nd,hnd⟩:∃n,n=D.length:=⟨_,rfl⟩
 obtain ⟨s,hs⟩:∃s:ByteArray,s=⟨c.toArray⟩:=⟨_,rfl⟩
 have hsl:s.data.toList=c:=by rw[hs]
 obtain ⟨wa,bf,bl,bh,hwa,hbf,hbl,hbh,hal,k0,k1,k2⟩:=new_three w #[.string s,.slice ao n ca] #[.bool false,.slice none 0 0,.bool false,.slice none 0 0] #[.bool false,.slice none 0 0,.bool false,.slice none 0 0] 27 47 47
 have hcap:n≤ca∧ca≤9223372036854775807:=by rw[hn]; exact ⟨hta,htb⟩
 have hcap2:nd≤cd∧cd≤9223372036854775807:=by rw[hnd]; exact ⟨hd.1,hd.2.1⟩
 have hsz:s.size≤4294967280:=by
  have h1:s.size=c.length:=by rw[hs]; simp[ByteArray.size]
  omega
 have HRD:=ZH (mread_any s hsz (hg.below hal) (by rw[hsl]; exact hc0))
 have hsl2:s.data.toList.length=c.length:=by rw[hsl]
 have HSL:=ZH hsl
 have HG:=ZH hg
 have HD:=ZH hd.2.2
 have HDB:=ZH hD
 have HTC:=ZH htc
 have HT:=ZH ht
 have HAL:=ZH hal
 have HK0:=ZH k0
 have HK1:=ZH k1
 have HK2:=ZH k2
 have HNE:=ZH (show bl≠bh∧bf≠bl∧bf≠bh∧w.heap.size≤bl∧w.heap.size≤bh by omega)
 have HN:=ZH (ZN hn (ZN hnd (ZN hL (ZN hS (ZN hb hc)))))
 have HW:=ZH (ZN hwa (ZN hbf (ZN hbl hbh)))
 rw[←hn,←hnd,←hs]
 clear hwa hbf hbl hbh hal k0 k2 hg hd hD hta htb htc ht hL hS hb hc hc0 hs hsl hsz hsl2
 obtain ⟨s0,s1⟩:=cells2 (ZR _ wa) HK0.out
 obtain ⟨z0,z1,z2,z3⟩:=cells4 (ZR _ wa) k1
 have f0:=ZF k1 0
 have f1:=ZF k1 1
 have f2:=ZF k1 2
 have f3:=ZF k1 3
 have hn1:n≤1000:=by have:=HN.out; omega
 clear hn hnd k1
 go_enter Tryz.func75,Tryz.ntmps75
 go_upto_region 1 with fail
 rw[←HW.out.1,←HW.out.2.2.2,←HW.out.2.2.1,←HW.out.2.1]
 clear HW
 go_wp2_with fail
 refine HRD.out.mono ?_
 rintro e w1 ⟨v1,rfl,hr1,hb1⟩
 rw[HSL.out] at hr1
 obtain ⟨p1,g1,f1',n1,p2,g2,f2',n2,rfl⟩:=rt_shape hr1
 have kl:=(hb1.block bl (ZL HK1.out)).trans HK1.out
 have kh:=(hb1.block bh (ZL HK2.out)).trans HK2.out
 have f0:=ZF kl 0
 have f1:=ZF kl 1
 have f2:=ZF kl 2
 have f3:=ZF kl 3
 have HR1:=ZH (ZN hr1 (ZN kl kh))
 have HB1:=ZH hb1
 clear z0 z1 z2 z3
 obtain ⟨z0,z1,z2,z3⟩:=cells4 (ZR _ w1) kl
 clear hr1 hb1 s0 s1 kl kh
 go_upto_region 2 with fail
 obtain ⟨w2,hw2⟩:∃x,x=(((w1.setCell ⟨bl,0,none⟩ (.bool p1)).setCell ⟨bl,1,none⟩ (.slice g1 f1' n1)).setCell ⟨bl,2,none⟩ (.bool p2)).setCell ⟨bl,3,none⟩ (.slice g2 f2' n2):=⟨_,rfl⟩
 rw[←hw2]
 clear z0 z1 z2 z3
 have hbu:But bl w1 w2:=by rw[hw2]; exact But.set4 (b:=bl) w1 _ _ _ _
 have kl2:w2.heap[bl]?=some (.cells #[.bool p1,.slice g1 f1' n1,.bool p2,.slice g2 f2' n2] 47 (0,0)):=by rw[hw2]; exact four_set HR1.out.2.1 _ _ _ _
 have kh2:=(hbu.block bh HNE.out.1.symm (ZL HR1.out.2.2)).trans HR1.out.2.2
 have hr2:=HR1.out.1.but (nodig4 HR1.out.2.1) hbu
 have hB2:Below w.heap.size w w2:=by
  rw[hw2]
  exact ((((HAL.out.trans (HB1.out.mono HAL.out.size)).setCell (p:=⟨bl,0,none⟩) HNE.out.2.2.2.1 _).setCell (p:=⟨bl,1,none⟩) HNE.out.2.2.2.1 _).setCell (p:=⟨bl,2,none⟩) HNE.out.2.2.2.1 _).setCell (p:=⟨bl,3,none⟩) HNE.out.2.2.2.1 _
 obtain ⟨z0,z1,z2,z3⟩:=cells4 (ZR _ w2) kl2
 obtain ⟨y0,y1,y2,y3⟩:=cells4 (ZR _ w2) kh2
 have f0:=ZF kh2 0
 have f1:=ZF kh2 1
 have f2:=ZF kh2 2
 have f3:=ZF kh2 3
 have kf2:=(hbu.block bf HNE.out.2.1 (Nat.lt_of_lt_of_le (ZL HK0.out) HB1.out.size)).trans ((HB1.out.block bf (ZL HK0.out)).trans HK0.out)
 have HR2:=ZH (ZN hr2 (ZN kl2 (ZN kh2 kf2)))
 have HB2:=ZH hB2
 clear hw2 hbu kl2 kh2 kf2 hr2 hB2 HR1 HB1
 go_upto_region 3 with fail
 obtain ⟨w3,hw3⟩:∃x,x=(((w2.setCell ⟨bh,0,none⟩ (.bool p1)).setCell ⟨bh,1,none⟩ (.slice g1 f1' n1)).setCell ⟨bh,2,none⟩ (.bool p2)).setCell ⟨bh,3,none⟩ (.slice g2 f2' n2):=⟨_,rfl⟩
 rw[←hw3]
 have hbu:But bh w2 w3:=by rw[hw3]; exact But.set4 (b:=bh) w2 _ _ _ _
 have kh3:w3.heap[bh]?=some (.cells #[.bool p1,.slice g1 f1' n1,.bool p2,.slice g2 f2' n2] 47 (0,0)):=by rw[hw3]; exact four_set HR2.out.2.2.1 _ _ _ _
 have kl3:=(hbu.block bl HNE.out.1 (ZL HR2.out.2.1)).trans HR2.out.2.1
 have kf3:=(hbu.block bf HNE.out.2.2.1 (ZL HR2.out.2.2.2)).trans HR2.out.2.2.2
 have hr3:=(HR2.out.1.but (nodig4 HR2.out.2.2.1) hbu).more (show S+2≥c.length+2 by have:=HN.out; omega)
 have hB3:Below w.heap.size w w3:=by
  rw[hw3]
  exact (((HB2.out.setCell (p:=⟨bh,0,none⟩) HNE.out.2.2.2.2 _).setCell (p:=⟨bh,1,none⟩) HNE.out.2.2.2.2 _).setCell (p:=⟨bh,2,none⟩) HNE.out.2.2.2.2 _).setCell (p:=⟨bh,3,none⟩) HNE.out.2.2.2.2 _
 obtain ⟨s0,s1⟩:=cells2 (ZR _ w3) kf3
 have HR3:=ZH (ZN hr3 (ZN kl3 kh3))
 have HB3:=ZH hB3
 clear hw3 hbu kh3 kl3 kf3 hr3 hB3 HR2 HB2 z0 z1 z2 z3 y0 y1 y2 y3 f0 f1 f2 f3
 go_wp2_with fail
 clear s0 s1
 go_loopg [21] n (fun gk x wr=>∃k:Nat,k+gk=n∧x=.int .i64 k∧Hid (∃s1 a1 c1 l1 s2 a2 c2 l2 t1 b1 d1 m1 t2 b2 d2 m2,wr.heap[bl]?=some (.cells #[.bool s1,.slice a1 c1 l1,.bool s2,.slice a2 c2 l2] 47 (0,0))∧wr.heap[bh]?=some (.cells #[.bool t1,.slice b1 d1 m1,.bool t2,.slice b2 d2 m2] 47 (0,0))∧RtIn wr (.agg #[.bool s1,.slice a1 c1 l1,.bool s2,.slice a2 c2 l2]) (spreadTo D c L k).1 (S+2+k*(S+6))∧RtIn wr (.agg #[.bool t1,.slice b1 d1 m1,.bool t2,.slice b2 d2 m2]) (spreadTo D c L k).2 (S+2+k*(S+6)))∧Hid (∀j,j<k→(L.getD j (0,[])).1<D.length)∧Hid (Below w.heap.size w wr))
 case atStart=>exact ⟨0,by omega,rfl,ZH ⟨_,_,_,_,_,_,_,_,_,_,_,_,_,_,_,_,HR3.out.2.1,HR3.out.2.2,by rw[Nat.zero_mul]; exact HR3.out.1,by rw[Nat.zero_mul]; exact HR3.out.1⟩,ZH (fun j hj=>by omega),HB3⟩
 case round=>
  obtain ⟨k,hk,rfl,hacc,hok,hbw⟩:=hrel
  obtain ⟨s1,a1,c1,l1,s2,a2,c2,l2,t1,b1,d1,m1,t2,b2,d2,m2,hkl,hkh,hrl,hrh⟩:=hacc.out
  by_cases hlt:k<n
  ·have e1:((k:Int)<(n:Int))=True:=eq_true (by omega)
   obtain ⟨g,o,rfl,-,hcc⟩:=HTC.out (by have:=HN.out.1; omega)
   have hx:=hcc k (by have:=HN.out.1; omega)
   have htk:=HT.out k (by have:=HN.out.1; omega)
   have hvs:=spreadTo_succ (D:=D) (c:=c) (show k<L.length by have:=HN.out.1; omega)
   obtain ⟨⟨ti,tl⟩,htt⟩:∃x,x=L.getD k (0,[]):=⟨_,rfl⟩
   have hno:nd≤ti→∃j,j<n∧nd≤(L.getD j (0,[])).1:=fun h=>⟨k,hlt,by rw[←htt]; exact h⟩
   have hyes:ti<nd→∀j,j<k+1→(L.getD j (0,[])).1<D.length:=fun h j hj=>by
    by_cases e:j<k
    ·exact hok.out j e
    ·obtain rfl:j=k:=by omega
     rw[←htt]
     have:=HN.out.2.1
     omega
   rw[←htt] at hx htk hvs
   simp only[] at hx htk hvs
   obtain ⟨tt,htx⟩:∃s:ByteArray,s=⟨tl.toArray⟩:=⟨_,rfl⟩
   rw[←htx] at hx
   have x0:=ZJ hbw.out hx.1
   have x1:=ZJ hbw.out hx.2
   obtain ⟨tq,htq⟩:∃x,x=readVal tl:=⟨_,rfl⟩
   have hrd:=fun (W:World) (hgW:Glob W)=>mread_any tt (by
    have h1:tt.size=tl.length:=by rw[htx]; simp[ByteArray.size]
    have h2:=HN.out
    omega) hgW (by rw[htx]; exact htk.2)
   rw[show tt.data.toList=tl by rw[htx],←htq] at hrd
   have HRDT:=ZH hrd
   have HVS:=ZH hvs
   have HLT:=ZH (ZN hlt (ZN htk.1 (ZN htq hok.out)))
   have HNO:=ZH (ZN hno hyes)
   have HKK:=ZH (ZN hkl hkh)
   have HRR:=ZH (ZN hrl hrh)
   have hk0:(0:Int)≤(k:Int):=by omega
   have hk1:(k:Int)<(n:Int):=by omega
   obtain ⟨va,hva⟩:∃x,x=spreadTo D c L k:=⟨_,rfl⟩
   rw[←hva] at HRR HVS
   obtain ⟨K0,hK0⟩:∃x,x=S+2+k*(S+6):=⟨_,rfl⟩
   rw[←hK0] at HRR
   have HBD:=ZH (show K0+(S+6)≤400000∧S+2+(k+1)*(S+6)=K0+(S+6)∧2≤K0 by
    have h1:=HN.out.2.2.2.2.1
    have h2:(k+1)*(S+6)≤(L.length+1)*(S+6):=Nat.mul_le_mul_right _ (by have h4:=HN.out.1; omega)
    rw[Nat.add_mul,Nat.one_mul] at h2⊢
    omega)
   clear hcc hx htk hvs htt htx htq hrd hlt hkl hkh hrl hrh hacc hva hK0 hno hyes hok
   go_upto_region 6 with fail
   obtain ⟨w4,hw4⟩:∃x,x=wr.alloc (.cells #[.int .i64 (ti:Int),.string tt] 85):=⟨_,rfl⟩
   obtain ⟨bt,hbt⟩:∃b,b=wr.heap.size:=⟨_,rfl⟩
   rw[←hw4,←hbt]
   have hl4:Below wr.heap.size wr w4:=by rw[hw4]; exact (ZR _ wr).alloc (Nat.le_refl _) _
   have kt:w4.heap[bt]?=some (.cells #[.int .i64 (ti:Int),.string tt] 85 (0,0)):=by rw[hw4,hbt]; exact ZW wr _
   have HKT:=ZH kt
   have HB4:=ZH (hbw.out.trans (hl4.mono hbw.out.size))
   have HKK4:=ZH (ZN ((hl4.block bl (ZL HKK.out.1)).trans HKK.out.1) ((hl4.block bh (ZL HKK.out.2)).trans HKK.out.2))
   have HRR4:=ZH (ZN (HRR.out.1.below hl4) (HRR.out.2.below hl4))
   obtain ⟨y0,y1⟩:=cells2 (ZR _ w4) kt
   clear hw4 hbt hl4 kt x0 x1 hk0 hk1 HKK HRR hbw
   by_cases hti:ti<nd
   ·have e2:((nd:Int)≤(ti:Int))=False:=eq_false (by omega)
    obtain ⟨db,dof,rfl,-,hdc⟩:=HD.out (by have:=HN.out.2.1; omega)
    have hx:=hdc ti (by have:=HN.out.2.1; omega)
    have hdb:=HDB.out ti (by have:=HN.out.2.1; omega)
    have hba:=boxes_at (D:=D) (j:=ti) (by have:=HN.out.2.1; omega)
    obtain ⟨d,hdd⟩:∃x,x=D.getD ti Dm.none:=⟨_,rfl⟩
    rw[←hdd] at hx hdb hba
    have q0:=ZJ HB4.out hx.1
    have q1:=ZJ HB4.out hx.2.1
    have q2:=ZJ HB4.out hx.2.2.1
    have q3:=ZJ HB4.out hx.2.2.2
    have HDD:=ZH (ZN hdb (ZN hba (HNO.out.2 hti)))
    have ht0:(0:Int)≤(ti:Int):=by omega
    have ht1:(ti:Int)<(nd:Int):=by omega
    clear hdc hx hdb hba hdd hti HNO
    go_upto_region 8 with fail
    go_wp2_with fail
    refine (HRDT.out w4 (HG.out.below HB4.out)).mono ?_
    rintro e w5 ⟨v5,rfl,hr5,hb5⟩
    obtain ⟨u1,i1,j1,o1,u2,i2,j2,o2,rfl⟩:=rt_shape hr5
    have HR5:=ZH hr5
    have HB5:=ZH hb5
    clear hr5 hb5 y0 y1
    go_upto_region 9 with fail
    obtain ⟨w6,hw6⟩:∃x,x=w5.alloc (.cells #[.bool u1,.slice i1 j1 o1,.bool u2,.slice i2 j2 o2] 47):=⟨_,rfl⟩
    obtain ⟨bk,hbk⟩:∃b,b=w5.heap.size:=⟨_,rfl⟩
    rw[←hw6,←hbk]
    have hl6:Below w5.heap.size w5 w6:=by rw[hw6]; exact (ZR _ w5).alloc (Nat.le_refl _) _
    have kk:w6.heap[bk]?=some (.cells #[.bool u1,.slice i1 j1 o1,.bool u2,.slice i2 j2 o2] 47 (0,0)):=by rw[hw6,hbk]; exact ZW w5 _
    have h46:Below w4.heap.size w4 w6:=HB5.out.trans (hl6.mono HB5.out.size)
    have HK6:=ZH (ZN kk ((HR5.out.below hl6).more (show tl.length+2≤S+2 by have:=HLT.out.2.1; omega)))
    have H46:=ZH h46
    obtain ⟨FR,hFR⟩:∃x,x=d.nominal+d.lower:=⟨_,rfl⟩
    obtain ⟨TO,hTO⟩:∃x,x=d.nominal+d.upper:=⟨_,rfl⟩
    have hrg:=mRange_any (W:=w6) d HDD.out.1.1 HDD.out.1.2.1 HDD.out.1.2.2
    unfold dmV at hrg
    have hba:=HDD.out.2.1
    rw[←hFR,←hTO] at hrg hba
    have HFT:=ZH (show (-9223372036854775808≤FR∧FR≤9223372036854775807)∧(-9223372036854775808≤TO∧TO≤9223372036854775807) by have h:=HDD.out.1; omega)
    have HRG:=ZH hrg
    have HBA:=ZH (ZN hba HDD.out.2.2)
    have q0:=ZJ h46 q0
    have q1:=ZJ h46 q1
    have q2:=ZJ h46 q2
    have q3:=ZJ h46 q3
    obtain ⟨y0,y1⟩:=cells2 h46 HKT.out
    clear hw6 hbk hl6 kk h46 hFR hTO hrg hba HDD HR5 HB5
    go_wp2_with fail
    refine HRG.out.mono ?_
    rintro e w7 ⟨rfl,hb7⟩
    have h47:=H46.out.trans (hb7.mono H46.out.size)
    have HK7:=ZH (ZN ((hb7.block bk (ZL HK6.out.1)).trans HK6.out.1) (HK6.out.2.below hb7))
    have HKK7:=ZH (ZN ((h47.block bl (ZL HKK4.out.1)).trans HKK4.out.1) ((h47.block bh (ZL HKK4.out.2)).trans HKK4.out.2))
    have HRR7:=ZH (ZN (HRR4.out.1.below h47) (HRR4.out.2.below h47))
    have HB7:=ZH (HB4.out.trans (h47.mono HB4.out.size))
    have HW7:=ZH (ZR w7.heap.size w7)
    clear y0 y1 q0 q1 q2 q3 hb7 h47 HRG HK6 HKK4 HRR4 H46 HKT HB4
    go_upto_region 10 with fail
    refine FlowX.wp_region_mix (fun a b=>Below a.heap.size a b) (fun _ _ h=>h) [0,1,2,3,4,5,6,7,8,9] [true,true,true,true,true,true,true,true,true,true,false,false] (fun j9=>[8,9].contains j9) (fun i9 v w'=>match i9 with
     | 0=>v=.agg #[.bool u1,.slice i1 j1 o1,.bool u2,.slice i2 j2 o2]
     | 1=>v=.int .i64 FR
     | 2=>RtIn w' v (FR:Rat) 2
     | 3=>RtIn w' v (tq*(FR:Rat)) (S+2+2)
     | 4=>v=.agg #[.bool u1,.slice i1 j1 o1,.bool u2,.slice i2 j2 o2]
     | 5=>v=.int .i64 TO
     | 6=>RtIn w' v (TO:Rat) 2
     | 7=>RtIn w' v (tq*(TO:Rat)) (S+2+2)
     | 8=>True
     | _=>True) (FlowX.TwoBox w7.heap.size #[.bool false,.slice none 0 0,.bool false,.slice none 0 0] 47 8 9) rfl rfl (by kernel_rfl) (by kernel_rfl) (by kernel_rfl) (by kernel_rfl) ?st ?hX ?hX0 ?_ ?_
    case st=>
     intro i9 v u1 u2 h hb
     match i9 with
     | 0 | 1 | 4 | 5 | 8 | 9 | _+10=>exact h
     | 2 | 3 | 6 | 7=>exact RtIn.below h hb
    case hX=>exact fun L xs w L' xs' w' h he hb=>h.below (he 8 rfl) (he 9 rfl) hb
    case hX0=>exact fun xs=>FlowX.TwoBox.init _ _
    refine Flow.Steps.cons (.inl ⟨rfl,FlowX.StepS.of rfl ?s0⟩) (Flow.Steps.cons (.inl ⟨rfl,FlowX.StepS.of rfl ?s1⟩) (Flow.Steps.cons (.inl ⟨rfl,FlowX.StepS.of rfl ?s2⟩) (Flow.Steps.cons (.inl ⟨rfl,FlowX.StepS.of rfl ?s3⟩) (Flow.Steps.cons (.inl ⟨rfl,FlowX.StepS.of rfl ?s4⟩) (Flow.Steps.cons (.inl ⟨rfl,FlowX.StepS.of rfl ?s5⟩) (Flow.Steps.cons (.inl ⟨rfl,FlowX.StepS.of rfl ?s6⟩) (Flow.Steps.cons (.inl ⟨rfl,FlowX.StepS.of rfl ?s7⟩) (Flow.Steps.cons (.inr ⟨rfl,FlowX.StepX.of rfl ?s8⟩) (Flow.Steps.cons (.inr ⟨rfl,FlowX.StepX.of rfl ?s9⟩) zSn)))))))))
    case s0 | s4=>
     intro L9 xs w' hb hT hX9 K9 hK9
     clear hT
     simp only[zFp,zAp,zLa,zLb,zLc,Nat.reduceAdd,zNz] at hK9⊢
     have hw:=Flow.hwD HW7.out hb
     obtain ⟨y0,y1,y2,y3⟩:=cells4 hw HK7.out.1
     go_simp
     exact hK9 _ _ (ZR _ _) rfl
    case s1 | s5=>
     intro L9 xs w' hb hT hX9 K9 hK9
     clear hT
     simp only[zFp,zAp,zLa,zLb,zLc,Nat.reduceAdd,zNz] at hK9⊢
     have hw:=Flow.hwD HW7.out hb
     go_simp
     exact hK9 _ _ (ZR _ _) rfl
    case s2=>
     intro L9 xs w' hb hT hX9 K9 hK9
     have h1:(xs 1)=.int .i64 FR:=(hT 1 (by kernel_rfl)).2
     clear hT
     simp only[zFp,zAp,zLa,zLb,zLc,Nat.reduceAdd,zNz] at hK9⊢
     have hw:=Flow.hwD HW7.out hb
     (try simp only[h1] at hK9)
     go_simp
     go_at_call 35
     refine (ratFrom_any HFT.out.1.1 HFT.out.1.2).mono ?_
     rintro e w3 ⟨v3,rfl,hi3,hb3⟩
     exact hK9 _ _ hb3 hi3
    case s3=>
     intro L9 xs w' hb hT hX9 K9 hK9
     have h0:(xs 0)=.agg #[.bool u1,.slice i1 j1 o1,.bool u2,.slice i2 j2 o2]:=(hT 0 (by kernel_rfl)).2
     have h2:RtIn w' (xs 2) (FR:Rat) 2:=(hT 2 (by kernel_rfl)).2
     clear hT
     simp only[zFp,zAp,zLa,zLb,zLc,Nat.reduceAdd,zNz] at hK9⊢
     have hw:=Flow.hwD HW7.out hb
     (try simp only[h0] at hK9)
     go_simp
     go_at_call 62
     refine (ratMul_any (HK7.out.2.below hw) h2 (by omega) (by omega) (by have:=HBD.out; omega)).mono ?_
     rintro e w3 ⟨v3,rfl,hi3,hb3⟩
     exact hK9 _ _ hb3 hi3
    case s6=>
     intro L9 xs w' hb hT hX9 K9 hK9
     have h5:(xs 5)=.int .i64 TO:=(hT 5 (by kernel_rfl)).2
     clear hT
     simp only[zFp,zAp,zLa,zLb,zLc,Nat.reduceAdd,zNz] at hK9⊢
     have hw:=Flow.hwD HW7.out hb
     (try simp only[h5] at hK9)
     go_simp
     go_at_call 35
     refine (ratFrom_any HFT.out.2.1 HFT.out.2.2).mono ?_
     rintro e w3 ⟨v3,rfl,hi3,hb3⟩
     exact hK9 _ _ hb3 hi3
    case s7=>
     intro L9 xs w' hb hT hX9 K9 hK9
     have h4:(xs 4)=.agg #[.bool u1,.slice i1 j1 o1,.bool u2,.slice i2 j2 o2]:=(hT 4 (by kernel_rfl)).2
     have h6:RtIn w' (xs 6) (TO:Rat) 2:=(hT 6 (by kernel_rfl)).2
     clear hT
     simp only[zFp,zAp,zLa,zLb,zLc,Nat.reduceAdd,zNz] at hK9⊢
     have hw:=Flow.hwD HW7.out hb
     (try simp only[h4] at hK9)
     go_simp
     go_at_call 62
     refine (ratMul_any (HK7.out.2.below hw) h6 (by omega) (by omega) (by have:=HBD.out; omega)).mono ?_
     rintro e w3 ⟨v3,rfl,hi3,hb3⟩
     exact hK9 _ _ hb3 hi3
    case s8=>
     intro L9 xs w' hb hT hX9 hL9 K9 hK9
     clear hT
     simp only[zFp,zAp,zLa,zLb,zLc,Nat.reduceAdd,zNz] at hK9⊢
     have hw:=Flow.hwD HW7.out hb
     go_simp
     exact hK9 _ _ (hb.alloc hb.size _) ((ZR _ _).alloc (Nat.le_refl _) _) trivial (hX9.make1 hb.size (by decide))
    case s9=>
     intro L9 xs w' hb hT hX9 hL9 K9 hK9
     clear hT
     simp only[zFp,zAp,zLa,zLb,zLc,Nat.reduceAdd,zNz] at hK9⊢
     have hw:=Flow.hwD HW7.out hb
     go_simp
     exact hK9 _ _ (hb.alloc hb.size _) ((ZR _ _).alloc (Nat.le_refl _) _) trivial (hX9.make2 hb.size (by decide))
    intro xs w' hb hT hX9
    have hw:=Flow.hwD HW7.out hb
    have h3:RtIn w' (xs 3) (tq*(FR:Rat)) (S+2+2):=hT 3 (by rfl)
    have h7:RtIn w' (xs 7) (tq*(TO:Rat)) (S+2+2):=hT 7 (by rfl)
    clear hT
    simp only[zFp,zAp,zLa,zLb,zLc,Nat.reduceAdd,zNz,FlowR.restL]
    obtain ⟨ba,bb,e8,e9,hne,hga,hgb,ka,kb⟩:=hX9.both (by rfl) (by rfl)
    obtain ⟨p1',g3,i3,j3,p2',g4,i4,j4,e3⟩:=rt_shape h3
    obtain ⟨p3',g5,i5,j5,p4',g6,i6,j6,e7⟩:=rt_shape h7
    rw[e3] at h3
    rw[e7] at h7
    simp only[e3,e7,e8,e9]
    clear e3 e7 e8 e9 hX9
    have f0:=ZF ka 0
    have f1':=ZF ka 1
    have f2':=ZF ka 2
    have f3:=ZF ka 3
    obtain ⟨za0,za1,za2,za3⟩:=cells4 (ZR _ w') ka
    obtain ⟨zb0,zb1,zb2,zb3⟩:=cells4 (ZR _ w') kb
    have o0:=ZF kb 0
    have o1':=ZF kb 1
    have o2':=ZF kb 2
    have o3:=ZF kb 3
    have HAB:=ZH (ZN hne (ZN hga (ZN hgb (ZN ka kb))))
    have H37:=ZH (ZN h3 h7)
    have HW9:=ZH hw
    have hne2:=hne.symm
    clear h3 h7 ka kb hga hgb hb hw
    go_upto_region 11 with fail
    obtain ⟨wc,hwc⟩:∃x,x=(((w'.setCell ⟨ba,0,none⟩ (.bool p1')).setCell ⟨ba,1,none⟩ (.slice g3 i3 j3)).setCell ⟨ba,2,none⟩ (.bool p2')).setCell ⟨ba,3,none⟩ (.slice g4 i4 j4):=⟨_,rfl⟩
    rw[←hwc]
    obtain ⟨w8,hw8⟩:∃x,x=(((wc.setCell ⟨bb,0,none⟩ (.bool p3')).setCell ⟨bb,1,none⟩ (.slice g5 i5 j5)).setCell ⟨bb,2,none⟩ (.bool p4')).setCell ⟨bb,3,none⟩ (.slice g6 i6 j6):=⟨_,rfl⟩
    rw[←hw8]
    have hua:But ba w' wc:=by rw[hwc]; exact But.set4 (b:=ba) w' _ _ _ _
    have hub:But bb wc w8:=by rw[hw8]; exact But.set4 (b:=bb) wc _ _ _ _
    have hka:wc.heap[ba]?=some (.cells #[.bool p1',.slice g3 i3 j3,.bool p2',.slice g4 i4 j4] 47 (0,0)):=by rw[hwc]; exact four_set HAB.out.2.2.2.1 _ _ _ _
    have hkb:=(hua.block bb HAB.out.1.symm (ZL HAB.out.2.2.2.2)).trans HAB.out.2.2.2.2
    have hkb8:w8.heap[bb]?=some (.cells #[.bool p3',.slice g5 i5 j5,.bool p4',.slice g6 i6 j6] 47 (0,0)):=by rw[hw8]; exact four_set hkb _ _ _ _
    have hka8:=(hub.block ba HAB.out.1 (ZL hka)).trans hka
    have HKAB:=ZH (ZN hka8 hkb8)
    have HRAB:=ZH (ZN ((H37.out.1.but (nodig4 HAB.out.2.2.2.1) hua).but (nodig4 hkb) hub) ((H37.out.2.but (nodig4 HAB.out.2.2.2.1) hua).but (nodig4 hkb) hub))
    have hl8:=(HW9.out.block bl (ZL HKK7.out.1)).trans HKK7.out.1
    have hh8:=(HW9.out.block bh (ZL HKK7.out.2)).trans HKK7.out.2
    have nla:bl≠ba:=by have:=ZL HKK7.out.1; have:=HAB.out.2.1; omega
    have nlb:bl≠bb:=by have:=ZL HKK7.out.1; have:=HAB.out.2.2.1; omega
    have nha:bh≠ba:=by have:=ZL HKK7.out.2; have:=HAB.out.2.1; omega
    have nhb:bh≠bb:=by have:=ZL HKK7.out.2; have:=HAB.out.2.2.1; omega
    have hl8:=(hua.block bl nla (ZL hl8)).trans hl8
    have hh8:=(hua.block bh nha (ZL hh8)).trans hh8
    have HKLH:=ZH (ZN ((hub.block bl nlb (ZL hl8)).trans hl8) ((hub.block bh nhb (ZL hh8)).trans hh8))
    have HRLH:=ZH (ZN (((HRR7.out.1.below HW9.out).but (nodig4 HAB.out.2.2.2.1) hua).but (nodig4 hkb) hub) (((HRR7.out.2.below HW9.out).but (nodig4 HAB.out.2.2.2.1) hua).but (nodig4 hkb) hub))
    have hga:w.heap.size≤ba:=Nat.le_trans HB7.out.size HAB.out.2.1
    have hgb:w.heap.size≤bb:=Nat.le_trans HB7.out.size HAB.out.2.2.1
    have HB8:=ZH (show Below w.heap.size w w8 by
     rw[hw8,hwc]
     exact ((((((((HB7.out.trans (HW9.out.mono HB7.out.size)).setCell (p:=⟨ba,0,none⟩) hga _).setCell (p:=⟨ba,1,none⟩) hga _).setCell (p:=⟨ba,2,none⟩) hga _).setCell (p:=⟨ba,3,none⟩) hga _).setCell (p:=⟨bb,0,none⟩) hgb _).setCell (p:=⟨bb,1,none⟩) hgb _).setCell (p:=⟨bb,2,none⟩) hgb _).setCell (p:=⟨bb,3,none⟩) hgb _)
    have HW8:=ZH (ZR w8.heap.size w8)
    clear hwc hw8 hua hub hka hkb hkb8 hka8 hl8 hh8 nla nlb nha nhb hga hgb HW9 H37 HAB f0 f1' f2' f3 o0 o1' o2' o3 za0 za1 za2 za3 zb0 zb1 zb2 zb3 hne hne2 HW7 HKK7 HRR7 HK7 HB7
    refine FlowR.wp_region_sel (fun a b=>Below a.heap.size a b) (fun a=>ZR _ a) (fun _ _ _ h k=>h.trans (k.mono h.size)) [0,1,2,3,4,5,6,7,8,9] [false,false,false,false,false,false,false,false,false,false,false,false] [true,true,true,true,true,true,true,true,true,true,false,false] (fun i9 v w'=>match i9 with
     | 0=>v=.agg #[.bool s1,.slice a1 c1 l1,.bool s2,.slice a2 c2 l2]
     | 1=>v=.agg #[.bool p1',.slice g3 i3 j3,.bool p2',.slice g4 i4 j4]
     | 2=>v=.agg #[.bool p3',.slice g5 i5 j5,.bool p4',.slice g6 i6 j6]
     | 3=>RtIn w' v (mn (tq*(FR:Rat)) (tq*(TO:Rat))) (S+2+2)
     | 4=>RtIn w' v (va.1+mn (tq*(FR:Rat)) (tq*(TO:Rat))) (K0+(S+2+2)+1)
     | 5=>v=.agg #[.bool t1,.slice b1 d1 m1,.bool t2,.slice b2 d2 m2]
     | 6=>v=.agg #[.bool p1',.slice g3 i3 j3,.bool p2',.slice g4 i4 j4]
     | 7=>v=.agg #[.bool p3',.slice g5 i5 j5,.bool p4',.slice g6 i6 j6]
     | 8=>RtIn w' v (mx (tq*(FR:Rat)) (tq*(TO:Rat))) (S+2+2)
     | _=>RtIn w' v (va.2+mx (tq*(FR:Rat)) (tq*(TO:Rat))) (K0+(S+2+2)+1)) rfl rfl (by kernel_rfl) (by kernel_rfl) (by kernel_rfl) (by kernel_rfl) ?st ?_ ?_
    case st=>
     intro i9 v u1 u2 h hb
     match i9 with
     | 0 | 1 | 2 | 5 | 6 | 7=>exact h
     | 3 | 4 | 8 | 9 | _+10=>exact RtIn.below h hb
    refine zSc (zSo rfl ?s0) (zSc (zSo rfl ?s1) (zSc (zSo rfl ?s2) (zSc (zSo rfl ?s3) (zSc (zSo rfl ?s4) (zSc (zSo rfl ?s5) (zSc (zSo rfl ?s6) (zSc (zSo rfl ?s7) (zSc (zSo rfl ?s8) (zSc (zSo rfl ?s9) zSn)))))))))
    case s0 | s1 | s2 | s5 | s6 | s7=>
     intro xs w' hb hT K9 hK9
     clear hT
     simp only[zFp,zAp,zLa,zLb,zLc,Nat.reduceAdd,zNz] at hK9⊢
     have hw:=Flow.hwD HW8.out hb
     obtain ⟨y0,y1,y2,y3⟩:=cells4 hw HKLH.out.1
     obtain ⟨z0,z1,z2,z3⟩:=cells4 hw HKAB.out.1
     obtain ⟨u0,u1,u2,u3⟩:=cells4 hw HKAB.out.2
     obtain ⟨v0,v1,v2,v3⟩:=cells4 hw HKLH.out.2
     go_simp
     exact hK9 _ _ (ZR _ _) rfl
    case s3=>
     intro xs w' hb hT K9 hK9
     have h1:(xs 1)=.agg #[.bool p1',.slice g3 i3 j3,.bool p2',.slice g4 i4 j4]:=hT 1 (by kernel_rfl)
     have h2:(xs 2)=.agg #[.bool p3',.slice g5 i5 j5,.bool p4',.slice g6 i6 j6]:=hT 2 (by kernel_rfl)
     clear hT
     simp only[zFp,zAp,zLa,zLb,zLc,Nat.reduceAdd,zNz] at hK9⊢
     have hw:=Flow.hwD HW8.out hb
     (try simp only[h1] at hK9)
     (try simp only[h2] at hK9)
     go_simp
     go_at_call 76
     refine (ratMin_any (HRAB.out.1.below hw) (HRAB.out.2.below hw) (by omega) (by have:=HBD.out; omega)).mono ?_
     rintro e w3 ⟨v3,rfl,hi3,hb3⟩
     exact hK9 _ _ hb3 hi3
    case s4=>
     intro xs w' hb hT K9 hK9
     have h0:(xs 0)=.agg #[.bool s1,.slice a1 c1 l1,.bool s2,.slice a2 c2 l2]:=hT 0 (by kernel_rfl)
     have h3:RtIn w' (xs 3) (mn (tq*(FR:Rat)) (tq*(TO:Rat))) (S+2+2):=hT 3 (by kernel_rfl)
     clear hT
     simp only[zFp,zAp,zLa,zLb,zLc,Nat.reduceAdd,zNz] at hK9⊢
     have hw:=Flow.hwD HW8.out hb
     (try simp only[h0] at hK9)
     go_simp
     go_at_call 59
     refine (ratAdd_any (HRLH.out.1.below hw) h3 HBD.out.2.2 (by omega) (by have:=HBD.out; omega)).mono ?_
     rintro e w3 ⟨v3,rfl,hi3,hb3⟩
     exact hK9 _ _ hb3 hi3
    case s8=>
     intro xs w' hb hT K9 hK9
     have h6:(xs 6)=.agg #[.bool p1',.slice g3 i3 j3,.bool p2',.slice g4 i4 j4]:=hT 6 (by kernel_rfl)
     have h7:(xs 7)=.agg #[.bool p3',.slice g5 i5 j5,.bool p4',.slice g6 i6 j6]:=hT 7 (by kernel_rfl)
     clear hT
     simp only[zFp,zAp,zLa,zLb,zLc,Nat.reduceAdd,zNz] at hK9⊢
     have hw:=Flow.hwD HW8.out hb
     (try simp only[h6] at hK9)
     (try simp only[h7] at hK9)
     go_simp
     go_at_call 77
     refine (ratMax_any (HRAB.out.1.below hw) (HRAB.out.2.below hw) (by omega) (by have:=HBD.out; omega)).mono ?_
     rintro e w3 ⟨v3,rfl,hi3,hb3⟩
     exact hK9 _ _ hb3 hi3
    case s9=>
     intro xs w' hb hT K9 hK9
     have h5:(xs 5)=.agg #[.bool t1,.slice b1 d1 m1,.bool t2,.slice b2 d2 m2]:=hT 5 (by kernel_rfl)
     have h8:RtIn w' (xs 8) (mx (tq*(FR:Rat)) (tq*(TO:Rat))) (S+2+2):=hT 8 (by kernel_rfl)
     clear hT
     simp only[zFp,zAp,zLa,zLb,zLc,Nat.reduceAdd,zNz] at hK9⊢
     have hw:=Flow.hwD HW8.out hb
     (try simp only[h5] at hK9)
     go_simp
     go_at_call 59
     refine (ratAdd_any (HRLH.out.2.below hw) h8 HBD.out.2.2 (by omega) (by have:=HBD.out; omega)).mono ?_
     rintro e w3 ⟨v3,rfl,hi3,hb3⟩
     exact hK9 _ _ hb3 hi3
    intro xs w' hb hT
    have hw:=Flow.hwD HW8.out hb
    have h4:RtIn w' (xs 4) (va.1+mn (tq*(FR:Rat)) (tq*(TO:Rat))) (K0+(S+2+2)+1):=hT 4 (by rfl)
    have h9:RtIn w' (xs 9) (va.2+mx (tq*(FR:Rat)) (tq*(TO:Rat))) (K0+(S+2+2)+1):=hT 9 (by rfl)
    clear hT
    simp only[zFp,zAp,zLa,zLb,zLc,Nat.reduceAdd,zNz,FlowR.restL,FlowR.orM,Bool.false_or]
    obtain ⟨p5',g7,i7,j7,p6',g8,i8,j8,e4⟩:=rt_shape h4
    obtain ⟨p7',g9,i9,j9,p8',gx,ix,jx,e9⟩:=rt_shape h9
    rw[e4] at h4
    rw[e9] at h9
    simp only[e4,e9]
    clear e4 e9
    have hl9:=(hw.block bl (ZL HKLH.out.1)).trans HKLH.out.1
    have hh9:=(hw.block bh (ZL HKLH.out.2)).trans HKLH.out.2
    have f0:=ZF hl9 0
    have f1':=ZF hl9 1
    have f2':=ZF hl9 2
    have f3:=ZF hl9 3
    obtain ⟨za0,za1,za2,za3⟩:=cells4 (ZR _ w') hl9
    obtain ⟨zb0,zb1,zb2,zb3⟩:=cells4 (ZR _ w') hh9
    have o0:=ZF hh9 0
    have o1':=ZF hh9 1
    have o2':=ZF hh9 2
    have o3:=ZF hh9 3
    have hne:=HNE.out.1
    have hne2:=HNE.out.1.symm
    have H49:=ZH (ZN h4 (ZN h9 (ZN hl9 hh9)))
    have HW9:=ZH hw
    clear h4 h9 hl9 hh9 hb hw
    go_upto_region 12 with fail
    obtain ⟨wc,hwc⟩:∃x,x=(((w'.setCell ⟨bl,0,none⟩ (.bool p5')).setCell ⟨bl,1,none⟩ (.slice g7 i7 j7)).setCell ⟨bl,2,none⟩ (.bool p6')).setCell ⟨bl,3,none⟩ (.slice g8 i8 j8):=⟨_,rfl⟩
    rw[←hwc]
    obtain ⟨wd,hwd⟩:∃x,x=(((wc.setCell ⟨bh,0,none⟩ (.bool p7')).setCell ⟨bh,1,none⟩ (.slice g9 i9 j9)).setCell ⟨bh,2,none⟩ (.bool p8')).setCell ⟨bh,3,none⟩ (.slice gx ix jx):=⟨_,rfl⟩
    rw[←hwd]
    have hua:But bl w' wc:=by rw[hwc]; exact But.set4 (b:=bl) w' _ _ _ _
    have hub:But bh wc wd:=by rw[hwd]; exact But.set4 (b:=bh) wc _ _ _ _
    have hka:wc.heap[bl]?=some (.cells #[.bool p5',.slice g7 i7 j7,.bool p6',.slice g8 i8 j8] 47 (0,0)):=by rw[hwc]; exact four_set H49.out.2.2.1 _ _ _ _
    have hkb:=(hua.block bh HNE.out.1.symm (ZL H49.out.2.2.2)).trans H49.out.2.2.2
    have hkb8:wd.heap[bh]?=some (.cells #[.bool p7',.slice g9 i9 j9,.bool p8',.slice gx ix jx] 47 (0,0)):=by rw[hwd]; exact four_set hkb _ _ _ _
    have hka8:=(hub.block bl HNE.out.1 (ZL hka)).trans hka
    have r1:=((H49.out.1.but (nodig4 H49.out.2.2.1) hua).but (nodig4 hkb) hub).more (show K0+(S+2+2)+1≤S+2+(k+1)*(S+6) by have:=HBD.out; omega)
    have r2:=((H49.out.2.1.but (nodig4 H49.out.2.2.1) hua).but (nodig4 hkb) hub).more (show K0+(S+2+2)+1≤S+2+(k+1)*(S+6) by have:=HBD.out; omega)
    have hst:spreadTo D c L (k+1)=(va.1+mn (tq*(FR:Rat)) (tq*(TO:Rat)),va.2+mx (tq*(FR:Rat)) (tq*(TO:Rat))):=by
     rw[HVS.out]
     unfold spreadStep
     rw[HBA.out.1,←HLT.out.2.2.1]
    have HB9:=ZH (show Below w.heap.size w wd by
     rw[hwd,hwc]
     exact ((((((((HB8.out.trans (HW9.out.mono HB8.out.size)).setCell (p:=⟨bl,0,none⟩) HNE.out.2.2.2.1 _).setCell (p:=⟨bl,1,none⟩) HNE.out.2.2.2.1 _).setCell (p:=⟨bl,2,none⟩) HNE.out.2.2.2.1 _).setCell (p:=⟨bl,3,none⟩) HNE.out.2.2.2.1 _).setCell (p:=⟨bh,0,none⟩) HNE.out.2.2.2.2 _).setCell (p:=⟨bh,1,none⟩) HNE.out.2.2.2.2 _).setCell (p:=⟨bh,2,none⟩) HNE.out.2.2.2.2 _).setCell (p:=⟨bh,3,none⟩) HNE.out.2.2.2.2 _)
    have HF:=ZH (ZN hka8 (ZN hkb8 (ZN r1 (ZN r2 hst))))
    clear hwc hwd hua hub hka hkb hkb8 hka8 r1 r2 hst f0 f1' f2' f3 o0 o1' o2' o3 za0 za1 za2 za3 zb0 zb1 zb2 zb3 hne hne2
    go_wp2_with fail
    go_roundg (n-(k+1))
    case measure=>have:=HLT.out.1; omega
    case rel=>exact ⟨k+1,by have:=HLT.out.1; omega,by congr 1,ZH ⟨_,_,_,_,_,_,_,_,_,_,_,_,_,_,_,_,HF.out.1,HF.out.2.1,by rw[HF.out.2.2.2.2]; exact HF.out.2.2.1,by rw[HF.out.2.2.2.2]; exact HF.out.2.2.2.1⟩,ZH HBA.out.2,HB9⟩
   ·have e2:((nd:Int)≤(ti:Int))=True:=eq_true (by omega)
    have hbu:∀(W:World),But bh W ((((W.setCell ⟨bh,0,none⟩ (.bool false)).setCell ⟨bh,1,none⟩ (.slice none 0 0)).setCell ⟨bh,2,none⟩ (.bool false)).setCell ⟨bh,3,none⟩ (.slice none 0 0)):=fun W=>But.set4 (b:=bh) W _ _ _ _
    have l0:=ZF HKK4.out.1 0
    have l1':=ZF HKK4.out.1 1
    have l2':=ZF HKK4.out.1 2
    have l3:=ZF HKK4.out.1 3
    have r0:=ZF HKK4.out.2 0
    have r1:=ZF HKK4.out.2 1
    have r2:=ZF HKK4.out.2 2
    have r3:=ZF HKK4.out.2 3
    obtain ⟨z0,z1,z2,z3⟩:=cells4 (ZR _ w4) HKK4.out.1
    obtain ⟨q0,q1,q2,q3⟩:=cells4 (ZR _ w4) HKK4.out.2
    have hne:=HNE.out.1
    have hne2:=HNE.out.1.symm
    have HFB:=ZH ((((((((HB4.out.setCell (p:=⟨bl,0,none⟩) HNE.out.2.2.2.1 (.bool false)).setCell (p:=⟨bl,1,none⟩) HNE.out.2.2.2.1 (.slice none 0 0)).setCell (p:=⟨bl,2,none⟩) HNE.out.2.2.2.1 (.bool false)).setCell (p:=⟨bl,3,none⟩) HNE.out.2.2.2.1 (.slice none 0 0)).setCell (p:=⟨bh,0,none⟩) HNE.out.2.2.2.2 (.bool false)).setCell (p:=⟨bh,1,none⟩) HNE.out.2.2.2.2 (.slice none 0 0)).setCell (p:=⟨bh,2,none⟩) HNE.out.2.2.2.2 (.bool false)).setCell (p:=⟨bh,3,none⟩) HNE.out.2.2.2.2 (.slice none 0 0))
    have HNN:=ZH (HNO.out.1 (by omega))
    clear hti HNO HVS
    go_wp2_with fail
    refine bodyPost_ret (v:=.tuple #[.agg #[.bool false,.slice none 0 0,.bool false,.slice none 0 0],.agg #[.bool false,.slice none 0 0,.bool false,.slice none 0 0],.int .i64 13]) (by simp[results,Tryz.results75,go_sem,z0,z1,z2,z3,q0,q1,q2,q3]) rfl ⟨fun h=>?_,fun _=>rfl,HFB.out⟩
    obtain ⟨j,h1,h2⟩:=HNN.out
    have h3:=h j h1
    omega
  ·have e1:((k:Int)<(n:Int))=False:=eq_false (by omega)
   obtain rfl:k=n:=by omega
   have HKKE:=ZH (ZN hkl hkh)
   have HRRE:=ZH (ZN hrl hrh)
   have HOK:=ZH hok.out
   have HBE:=ZH hbw.out
   clear hacc hok hkl hkh hrl hrh hbw
   go_upto_region 13 with fail
   have hl9:=HKKE.out.1
   have hh9:=HKKE.out.2
   have f0:=ZF hl9 0
   have f1':=ZF hl9 1
   have f2':=ZF hl9 2
   have f3:=ZF hl9 3
   have o0:=ZF hh9 0
   have o1':=ZF hh9 1
   have o2':=ZF hh9 2
   have o3:=ZF hh9 3
   obtain ⟨z0,z1,z2,z3⟩:=cells4 (ZR _ wr) hl9
   obtain ⟨q0,q1,q2,q3⟩:=cells4 (ZR _ wr) hh9
   have hne:=HNE.out.1
   have hne2:=HNE.out.1.symm
   obtain ⟨wc,hwc⟩:∃x,x=(((wr.setCell ⟨bl,0,none⟩ (.bool s1)).setCell ⟨bl,1,none⟩ (.slice a1 c1 l1)).setCell ⟨bl,2,none⟩ (.bool s2)).setCell ⟨bl,3,none⟩ (.slice a2 c2 l2):=⟨_,rfl⟩
   have hua:But bl wr wc:=by rw[hwc]; exact But.set4 (b:=bl) wr _ _ _ _
   have hkb:=(hua.block bh HNE.out.1.symm (ZL hh9)).trans hh9
   have hub:=But.set4 (b:=bh) wc (.bool t1) (.slice b1 d1 m1) (.bool t2) (.slice b2 d2 m2)
   have r1:=((HRRE.out.1.but (nodig4 hl9) hua).but (nodig4 hkb) hub).below (ZR _ _).drew
   have r2:=((HRRE.out.2.but (nodig4 hl9) hua).but (nodig4 hkb) hub).below (ZR _ _).drew
   rw[hwc] at r1 r2
   have HF:=ZH (ZN r1 r2)
   have HFB:=ZH (((((((((HBE.out.setCell (p:=⟨bl,0,none⟩) HNE.out.2.2.2.1 (.bool s1)).setCell (p:=⟨bl,1,none⟩) HNE.out.2.2.2.1 (.slice a1 c1 l1)).setCell (p:=⟨bl,2,none⟩) HNE.out.2.2.2.1 (.bool s2)).setCell (p:=⟨bl,3,none⟩) HNE.out.2.2.2.1 (.slice a2 c2 l2)).setCell (p:=⟨bh,0,none⟩) HNE.out.2.2.2.2 (.bool t1)).setCell (p:=⟨bh,1,none⟩) HNE.out.2.2.2.2 (.slice b1 d1 m1)).setCell (p:=⟨bh,2,none⟩) HNE.out.2.2.2.2 (.bool t2)).setCell (p:=⟨bh,3,none⟩) HNE.out.2.2.2.2 (.slice b2 d2 m2)).drew)
   clear hl9 hh9 hua hub hkb r1 r2 hwc
   go_region
   go_wp2_with fail
   refine bodyPost_ret (v:=.tuple #[.agg #[.bool s1,.slice a1 c1 l1,.bool s2,.slice a2 c2 l2],.agg #[.bool t1,.slice b1 d1 m1,.bool t2,.slice b2 d2 m2],.int .i64 0]) (by simp[results,Tryz.results75,go_sem,z0,z1,z2,z3,q0,q1,q2,q3]) rfl ⟨fun _=>⟨_,_,rfl,HF.out⟩,fun h=>?_,HFB.out⟩
   obtain ⟨j,h1,h2⟩:=h
   have h3:=HOK.out j h1
   have:=HN.out.2.1
   omega
end Go.Proofs.YtdcaaehapdhckaaGreatDoor

