/- The law's rat, factor: the factor of a dimension in a form. -/
import Derived.Test.YtdcaaehapdhckaaGreatDoorKZ
import Derived.Test.YtdcaaehapdhckaaGreatDoorK1
import Derived.Test.YtdcaaehapdhckaaGreatDoorKW
import Derived.Test.YtdcaaehapdhckaaGreatDoorKI
set_option linter.unusedSimpArgs false
set_option linter.unusedVariables false
set_option maxRecDepth 100000
namespace Go.Proofs.YtdcaaehapdhckaaGreatDoor
open Go.RowKit Go.Num Go.Flow
set_option maxHeartbeats 8000000
set_option linter.unusedVariables false

def fac : List (Nat×List UInt8)→Int→Rat
 | [],_=>0
 | p::L,d=>if (p.1:Int)=d then readVal p.2 else fac L d
theorem fac_at : ∀{L:List (Nat×List UInt8)} {k:Nat} {d:Int},k<L.length→(∀j,j<k→((L.getD j (0,[])).1:Int)≠d)→((L.getD k (0,[])).1:Int)=d→fac L d=readVal (L.getD k (0,[])).2
 | [],k,d,h,_,_=>by simp at h
 | p::L,0,d,_,_,h=>by
  rw[fac,if_pos (by simpa using h)]
  rfl
 | p::L,k+1,d,hk,hn,h=>by
  rw[fac,if_neg (by have:=hn 0 (by omega); simpa using this)]
  exact fac_at (L:=L) (k:=k) (by simpa using hk) (fun j hj=>by have:=hn (j+1) (by omega); simpa using this) (by simpa using h)
theorem fac_none : ∀{L:List (Nat×List UInt8)} {d:Int},(∀j,j<L.length→((L.getD j (0,[])).1:Int)≠d)→fac L d=0
 | [],d,_=>rfl
 | p::L,d,h=>by
  rw[fac,if_neg (by have:=h 0 (by simp); simpa using this)]
  exact fac_none fun j hj=>by have:=h (j+1) (by simpa using hj); simpa using this
theorem fac_worth : ∀{L:List (Nat×List UInt8)},(L.Pairwise fun a b=>a.1<b.1)→∀d:Int,fac L d=worthAt L d
 | [],_,d=>rfl
 | p::L,hp,d=>by
  have hp2:=List.pairwise_cons.1 hp
  rw[fac,worthAt]
  by_cases h:(p.1:Int)=d
  ·rw[if_pos h,if_pos h.symm,worth_none fun q hq=>by have:=hp2.1 q hq; omega,Rat.add_zero]
  ·rw[if_neg h,if_neg (fun e=>h e.symm),fac_worth hp2.2 d,Rat.zero_add]
theorem fac_form (f:Go.Gx.LF) (i:Nat):fac (formTexts f) (i:Int)=f.t.getD i 0:=by
 have h:=fac_worth (texts_sorted (tmap f.t) f.t.length).1 (i:Int)
 exact h.trans (worth_texts f i)
theorem prat_any (s:ByteArray) (hs:s.size≤4294967280) {w:World} (hg:Glob w) (h0:readErr s.data.toList 400=0):Calls Tryz.prog 19 #[.string s] w fun e w'=>∃v,e=.returned v∧RtIn w' v (readVal s.data.toList) (s.data.toList.length+2)∧Below w.heap.size w w':=by
 obtain ⟨wa,b2,hwa,hb2,hla,ka⟩:=new_box w #[.bool false,.slice none 0 0,.bool false,.slice none 0 0] 47
 have HLA:=ZH hla
 have HKA:=ZH ka
 have HG:=ZH (Parse_any' s hs (hg.below hla))
 have HE:=ZH h0
 have HW:=ZH (ZN hwa hb2)
 clear hla ka hwa hb2 hg hs h0
 go_enter Tryz.func19,Tryz.ntmps19
 go_upto_region 1 with fail
 rw[←HW.out.1,←HW.out.2]
 go_wp2_with fail
 refine HG.out.mono ?_
 rintro e w2 ⟨v,rfl,hv,-,hb2⟩
 have hv:=hv HE.out
 rw[HE.out]
 obtain ⟨s1,a1,c1,l1,s2,a2,c2,l2,rfl⟩:=rt_shape hv
 obtain ⟨w6,b6,hw6,hb6,hl6,k6⟩:=new_box w2 #[.bool s1,.slice a1 c1 l1,.bool s2,.slice a2 c2 l2] 47
 have HQ:=ZH (hv.below hl6)
 have HW6:=ZH (ZN hw6 hb6)
 have hl26:=hb2.trans (hl6.mono hb2.size)
 have HL26:=ZH hl26
 have HK26:=ZH (ZN ((hl26.block b2 (ZL HKA.out)).trans HKA.out) k6)
 clear hv hb2 hw6 hb6 hl6 k6 hl26
 go_upto_region 2 with fail
 rw[←HW6.out.1,←HW6.out.2]
 clear HW6
 obtain ⟨z0,z1,z2,z3⟩:=cells4 (ZR _ w6) HK26.out.2
 obtain ⟨y0,y1,y2,y3⟩:=cells4 (ZR _ w6) HK26.out.1
 have f0:=ZF HK26.out.1 0
 have f1:=ZF HK26.out.1 1
 have f2:=ZF HK26.out.1 2
 have f3:=ZF HK26.out.1 3
 have hu:=But.set4 (b:=b2) w6 (.bool s1) (.slice a1 c1 l1) (.bool s2) (.slice a2 c2 l2)
 have HR:=ZH (HQ.out.but (nodig4 HK26.out.1) hu)
 have hb:=HLA.out.trans (HL26.out.mono HLA.out.size)
 have hge:w.heap.size≤b2:=by have:=HW.out.2; omega
 have HGB:=ZH (show Below w.heap.size w ((((w6.setCell ⟨b2,0,none⟩ (.bool s1)).setCell ⟨b2,1,none⟩ (.slice a1 c1 l1)).setCell ⟨b2,2,none⟩ (.bool s2)).setCell ⟨b2,3,none⟩ (.slice a2 c2 l2)) from (((hb.setCell (p:=⟨b2,0,none⟩) hge _).setCell (p:=⟨b2,1,none⟩) hge _).setCell (p:=⟨b2,2,none⟩) hge _).setCell (p:=⟨b2,3,none⟩) hge _)
 clear hu hb hge
 go_wp2_with fail
 exact bodyPost_ret (v:=.agg #[.bool s1,.slice a1 c1 l1,.bool s2,.slice a2 c2 l2]) (by simp[results,Tryz.results19,go_sem,y0,y1,y2,y3]) rfl ⟨_,rfl,HR.out,HGB.out⟩
theorem pfactor_any {w:World} (hg:Glob w) {v:Value} {c:List UInt8} {L:List (Nat×List UInt8)} (hf:FormAt w v c L) (hL:L.length≤100000) {S:Nat} (hS:S≤60000) (ht:∀j,j<L.length→(L.getD j (0,[])).2.length≤S∧readErr (L.getD j (0,[])).2 400=0) (d:Int) :
  Calls Tryz.prog 60 #[v,.int .i64 d] w fun e w'=>∃v,e=.returned v∧RtIn w' v (fac L d) (S+2)∧Below w.heap.size w w':=by
 obtain ⟨tv,rfl,at',ct,rfl,ht1,ht2,ht3⟩:=hf
 obtain ⟨n,hn⟩:∃n,n=L.length:=⟨_,rfl⟩
 obtain ⟨s0,hs0⟩:∃s:ByteArray,s=⟨c.toArray⟩:=⟨_,rfl⟩
 rw[←hn,←hs0]
 rw[←hn] at ht1
 obtain ⟨wa,bf,bc,hwa,hbf,hbc,hal,k0,k1⟩:=new_two w #[.string s0,.slice at' n ct] #[.bool false,.slice none 0 0,.bool false,.slice none 0 0] 27 47
 have HW:=ZH (ZN hwa (ZN hbf hbc))
 have HAL:=ZH hal
 have HG:=ZH (hg.below hal)
 have HT:=ZH ht3
 have HTT:=ZH ht
 have HK:=ZH (ZN k0 k1)
 have HN:=ZH (show n=L.length∧n≤100000∧S≤60000∧w.heap.size≤bc from ⟨hn,by omega,hS,by omega⟩)
 have hcap:n≤ct∧ct≤9223372036854775807:=⟨ht1,ht2⟩
 clear hwa hbf hbc hal k0 k1 hg ht ht1 ht2 ht3 hn hs0 hL hS
 go_enter Tryz.func60,Tryz.ntmps60
 go_upto_region 1 with fail
 rw[←HW.out.1,←HW.out.2.2,←HW.out.2.1]
 clear HW
 go_wp2_with fail
 go_loopg [5] n (fun gk i wr=>∃k:Nat,k+gk=n∧i=.int .i64 k∧Hid (∀j,j<k→((L.getD j (0,[])).1:Int)≠d)∧Hid (Below wa.heap.size wa wr))
 case atStart=>exact ⟨0,by omega,rfl,ZH (fun j hj=>by omega),ZH (ZR _ _)⟩
 case round=>
  obtain ⟨k,hk,rfl,hno,hbw⟩:=hrel
  have kf:=(hbw.out.block bf (ZL HK.out.1)).trans HK.out.1
  have q1:=ZI kf 1
  simp at q1
  by_cases hlt:k<n
  ·have e1:((k:Int)<(n:Int))=True:=eq_true (by omega)
   obtain ⟨tb,tp,rfl,-,htc⟩:=HT.out (by have:=HN.out.1; omega)
   obtain ⟨x0,x1⟩:=htc k (by have:=HN.out.1; omega)
   have htk:=HTT.out k (by have:=HN.out.1; omega)
   obtain ⟨td,htd⟩:∃x:Int,x=((L.getD k (0,[])).1:Int):=⟨_,rfl⟩
   obtain ⟨tx,htx⟩:∃x:ByteArray,x=⟨(L.getD k (0,[])).2.toArray⟩:=⟨_,rfl⟩
   rw[←htd] at x0
   rw[←htx] at x1
   have hbb:=HAL.out.trans (hbw.out.mono HAL.out.size)
   have x0:=ZJ hbb x0
   have x1:=ZJ hbb x1
   have hk0:(0:Int)≤(k:Int):=by omega
   have hk1:(k:Int)<(n:Int):=by omega
   have HX:=ZH (ZN htd (ZN htx (ZN htk (ZN hlt hk))))
   have HNO:=ZH hno.out
   have HBW:=ZH hbw.out
   clear htc htk htd htx hbb hlt hk hno hbw kf
   by_cases hd:td=d
   ·have e2:(td==d)=true:=beq_iff_eq.2 hd
    have HFA:=ZH (fac_at (L:=L) (k:=k) (d:=d) (by have h1:=HX.out.2.2.2.1; have h2:=HN.out.1; omega) HNO.out (HX.out.1.symm.trans hd))
    have hr:=prat_any tx (by rw[HX.out.2.1]; show (L.getD k (0,[])).2.toArray.size≤_; rw[List.size_toArray]; have h1:=HX.out.2.2.1.1; have h2:=HN.out; omega) (HG.out.below HBW.out) (by rw[HX.out.2.1]; exact HX.out.2.2.1.2)
    have etx:tx.data.toList=(L.getD k (0,[])).2:=by rw[HX.out.2.1]
    rw[etx] at hr
    have HR:=ZH hr
    clear hd hr etx
    go_wp2_with fail
    refine HR.out.mono ?_
    rintro e w3 ⟨v,rfl,hv,hb3⟩
    obtain ⟨s1,a1,c1,l1,s2,a2,c2,l2,rfl⟩:=rt_shape hv
    have hb13:=HBW.out.trans (hb3.mono HBW.out.size)
    have kc:=(hb13.block bc (ZL HK.out.2)).trans HK.out.2
    obtain ⟨y0,y1,y2,y3⟩:=cells4 (ZR _ w3) kc
    have f0:=ZF kc 0
    have f1:=ZF kc 1
    have f2:=ZF kc 2
    have f3:=ZF kc 3
    have hu:=But.set4 (b:=bc) w3 (.bool s1) (.slice a1 c1 l1) (.bool s2) (.slice a2 c2 l2)
    have HRR:=ZH ((hv.but (nodig4 kc) hu).more (show (L.getD k (0,[])).2.length+2≤S+2 by have:=HX.out.2.2.1.1; omega))
    have hb:=HAL.out.trans (hb13.mono HAL.out.size)
    have hge:=HN.out.2.2.2
    have HGB:=ZH (show Below w.heap.size w ((((w3.setCell ⟨bc,0,none⟩ (.bool s1)).setCell ⟨bc,1,none⟩ (.slice a1 c1 l1)).setCell ⟨bc,2,none⟩ (.bool s2)).setCell ⟨bc,3,none⟩ (.slice a2 c2 l2)) from (((hb.setCell (p:=⟨bc,0,none⟩) hge _).setCell (p:=⟨bc,1,none⟩) hge _).setCell (p:=⟨bc,2,none⟩) hge _).setCell (p:=⟨bc,3,none⟩) hge _)
    clear hu hb hge kc hb13 hv hb3
    go_wp2_with fail
    exact bodyPost_ret (v:=.agg #[.bool s1,.slice a1 c1 l1,.bool s2,.slice a2 c2 l2]) (by simp[results,Tryz.results60,go_sem,y0,y1,y2,y3]) rfl ⟨_,rfl,by rw[HFA.out]; exact HRR.out,HGB.out⟩
   ·have e2:(td==d)=false:=ZQ.2 hd
    have HNN:=ZH (show ∀j,j<k+1→((L.getD j (0,[])).1:Int)≠d from fun j hj=>by
     rcases Nat.lt_or_eq_of_le (Nat.le_of_lt_succ hj) with h | h
     ·exact HNO.out j h
     ·rw[h,←HX.out.1]; exact hd)
    clear hd
    go_wp2_with fail
    go_roundg (n-(k+1))
    case measure=>have:=HX.out.2.2.2; omega
    case rel=>exact ⟨k+1,by have:=HX.out.2.2.2; omega,by first | (congr 1; done) | (congr 1; exact IntWalk.wrap64_in ((k:Int)+1) (by have h1:=HX.out.2.2.2; have h2:=HN.out; omega)),HNN,HBW⟩
  ·have e1:((k:Int)<(n:Int))=False:=eq_false (by omega)
   have HFN:=ZH (fac_none (L:=L) (d:=d) (fun j hj=>hno.out j (by have:=HN.out.1; omega)))
   have kc:=(hbw.out.block bc (ZL HK.out.2)).trans HK.out.2
   obtain ⟨y0,y1,y2,y3⟩:=cells4 (ZR _ wr) kc
   have f0:=ZF kc 0
   have f1:=ZF kc 1
   have f2:=ZF kc 2
   have f3:=ZF kc 3
   have hb:=HAL.out.trans (hbw.out.mono HAL.out.size)
   have hge:=HN.out.2.2.2
   have HGB:=ZH (show Below w.heap.size w ((((wr.setCell ⟨bc,0,none⟩ (.bool false)).setCell ⟨bc,1,none⟩ (.slice none 0 0)).setCell ⟨bc,2,none⟩ (.bool false)).setCell ⟨bc,3,none⟩ (.slice none 0 0)) from (((hb.setCell (p:=⟨bc,0,none⟩) hge _).setCell (p:=⟨bc,1,none⟩) hge _).setCell (p:=⟨bc,2,none⟩) hge _).setCell (p:=⟨bc,3,none⟩) hge _)
   clear hb hge kc hlt hk hno hbw
   go_wp2_with fail
   exact bodyPost_ret (v:=.agg #[.bool false,.slice none 0 0,.bool false,.slice none 0 0]) (by simp[results,Tryz.results60,go_sem,y0,y1,y2,y3]) rfl ⟨_,rfl,by rw[HFN.out]; exact zero_rt _ _,HGB.out⟩
end Go.Proofs.YtdcaaehapdhckaaGreatDoor

