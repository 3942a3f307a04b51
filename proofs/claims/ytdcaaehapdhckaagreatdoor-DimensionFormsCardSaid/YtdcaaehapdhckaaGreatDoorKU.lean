/- The law's add of two forms. -/
import Derived.Test.YtdcaaehapdhckaaGreatDoorKS
import Derived.Test.YtdcaaehapdhckaaGreatDoorKQ
import Derived.Test.YtdcaaehapdhckaaGreatDoorKR
import Derived.Test.YtdcaaehapdhckaaGreatDoorKE
import Derived.Test.YtdcaaehapdhckaaGreatDoorKZ
import Derived.Test.YtdcaaehapdhckaaGreatDoorKW
import Derived.Test.YtdcaaehapdhckaaGreatDoorK1
import Derived.Test.YtdcaaehapdhckaaGreatDoorKM
set_option linter.unusedSimpArgs false
set_option linter.unusedVariables false
set_option maxRecDepth 100000
namespace Go.Proofs.YtdcaaehapdhckaaGreatDoor
open List renaming setIfInBounds_toArray → zLa, set_cons_zero → zLb, set_cons_succ → zLc
open FlowR renaming putSel → zFp
open Act renaming put → zAp
open Nat renaming zero_add → zNz
open Flow.Steps renaming cons → zSc, nil → zSn
open FlowR.Step renaming of → zSo
open Go.RowKit Go.Num Go.Flow
set_option maxHeartbeats 8000000
set_option linter.unusedVariables false

def sumF (L M:List (Nat×List UInt8)) (k:Nat):List Rat:=(List.range k).map fun i:Nat=>fac L (i:Int)+fac M (i:Int)
theorem sumF_succ (L M:List (Nat×List UInt8)) (k:Nat):sumF L M (k+1)=sumF L M k++[fac L (k:Int)+fac M (k:Int)]:=by
 unfold sumF
 rw[List.range_succ,List.map_append]
 rfl
theorem sumF_len (L M:List (Nat×List UInt8)) (k:Nat):(sumF L M k).length=k:=by unfold sumF; simp
theorem padd_any {w:World} (hg:Glob w) {vf vg:Value} {c d:List UInt8} {L M:List (Nat×List UInt8)} (hf:FormAt w vf c L) (hf2:FormAt w vg d M) (hL:L.length≤1000) (hM:M.length≤1000) {S:Nat} (hS:S≤60000) (hc:c.length≤S) (hc0:readErr c 400=0) (hd:d.length≤S) (hd0:readErr d 400=0)
  (ht:∀j,j<L.length→(L.getD j (0,[])).2.length≤S∧readErr (L.getD j (0,[])).2 400=0) (ht2:∀j,j<M.length→(M.getD j (0,[])).2.length≤S∧readErr (M.getD j (0,[])).2 400=0) :
  Calls Tryz.prog 21 #[vf,vg] w fun e w'=>∃v,e=.returned v∧FormIn w' w.heap.size v (numText (readVal c+readVal d)) (sumTerms (tmap (sumF L M 64)) 64)∧Below w.heap.size w w':=by
 have HF:=ZH (ZN hf hf2)
 obtain ⟨tv,rfl,ao,ca,rfl,hta,htb,-⟩:=hf
 obtain ⟨tv2,rfl,ao2,ca2,rfl,hta2,htb2,-⟩:=hf2
 obtain ⟨n,hn⟩:∃n,n=L.length:=⟨_,rfl⟩
 obtain ⟨m,hm⟩:∃n,n=M.length:=⟨_,rfl⟩
 obtain ⟨s,hs⟩:∃s:ByteArray,s=⟨c.toArray⟩:=⟨_,rfl⟩
 obtain ⟨t,hst⟩:∃s:ByteArray,s=⟨d.toArray⟩:=⟨_,rfl⟩
 obtain ⟨wa,bf,bg,br,hwa,hbf,hbg,hbr,hal,k0,k1,k2⟩:=new_three w #[.string s,.slice ao n ca] #[.string t,.slice ao2 m ca2] #[.string ⟨#[]⟩,.slice none 0 0] 27 27 27
 rw[←hn,←hs] at HF
 rw[←hm,←hst] at HF
 have HG:=ZH hg
 have HAL:=ZH hal
 have HK:=ZH (ZN k0 (ZN k1 k2))
 have HT:=ZH (ZN ht ht2)
 have HN:=ZH (ZN hL (ZN hM (ZN hS (ZN hc (ZN hd (ZN hs hst))))))
 have HNE:=ZH (show bf≠br∧bg≠br∧w.heap.size≤br by omega)
 have HRC:=ZH (ZN hc0 hd0)
 have HW:=ZH (ZN hwa (ZN hbf (ZN hbg hbr)))
 rw[←hn,←hm,←hs,←hst]
 clear hg hal k0 k1 k2 ht ht2 hL hM hS hc hd hs hst hwa hbf hbg hbr hta htb hta2 htb2 hn hm hc0 hd0
 go_enter Tryz.func21,Tryz.ntmps21
 go_upto_region 1 with fail
 rw[←HW.out.1,←HW.out.2.2.2,←HW.out.2.2.1,←HW.out.2.1]
 clear HW
 go_wp2_with fail
 go_loopg [5,6] 64 (fun gk va i wr=>∃k:Nat,k+gk=64∧i=.int .i64 k∧Hid (RatApp wr wa.heap.size va (sumF L M k) (S+S+5))∧Hid (Below wa.heap.size wa wr))
 case atStart=>exact ⟨0,by omega,rfl,ZH (by rw[show sumF L M 0 = [] from rfl]; exact ratApp_nil _ _ _),ZH (ZR _ _)⟩
 case round=>
  obtain ⟨k,hk,rfl,hrow,hbw⟩:=hrel
  by_cases hlt:k<64
  ·have e1:((k:Int)<(64:Int))=True:=eq_true (by omega)
   obtain ⟨aa,ac,rfl,-,-⟩:=RatApp.shape hrow.out
   have hst:=hrow.out
   rw[sumF_len] at hst⊢
   have HROW:=ZH hst
   have HBW:=ZH hbw.out
   have HLT:=ZH (ZN hlt hk)
   have HWR:=ZH (ZR wr.heap.size wr)
   have HPS:=ZH (sumF_succ L M k)
   have hb0:=HAL.out.trans (hbw.out.mono HAL.out.size)
   have HB0:=ZH hb0
   have HKR:=ZH (ZN ((hbw.out.block bf (ZL HK.out.1)).trans HK.out.1) ((hbw.out.block bg (ZL HK.out.2.1)).trans HK.out.2.1))
   clear hst hrow hbw hb0 hlt hk
   go_upto_region 5 with fail
   clear e1
   refine FlowR.wp_region_sel (fun a b=>Below a.heap.size a b) (fun a=>ZR _ a) (fun _ _ _ h k=>h.trans (k.mono h.size)) [0,1,2,3,4,5,6,7,8] [false,false,false,false,false,false,false,false,false,false,false] [true,true,true,true,true,true,true,true,true,false,false] (fun i9 v w'=>match i9 with
    | 0=>v=.slice aa k ac
    | 1=>v=.agg #[.string s,.slice ao n ca]
    | 2=>v=.int .i64 (k:Int)
    | 3=>RtIn w' v (fac L (k:Int)) (S+2)
    | 4=>v=.agg #[.string t,.slice ao2 m ca2]
    | 5=>v=.int .i64 (k:Int)
    | 6=>RtIn w' v (fac M (k:Int)) (S+2)
    | 7=>RtIn w' v (fac L (k:Int)+fac M (k:Int)) (S+S+5)
    | _=>∃(bz:Nat) (c1:Bool) (c2:Option Addr) (c3 c4:Nat) (c5:Bool) (c6:Option Addr) (c7 c8:Nat),v=.slice (some ⟨bz,0,none⟩) 1 1∧w'.heap[bz]?=some (.cells #[.bool c1,.slice c2 c3 c4,.bool c5,.slice c6 c7 c8] 47 (0,0))∧RtIn w' (.agg #[.bool c1,.slice c2 c3 c4,.bool c5,.slice c6 c7 c8]) (fac L (k:Int)+fac M (k:Int)) (S+S+5)) rfl rfl (by kernel_rfl) (by kernel_rfl) (by kernel_rfl) (by kernel_rfl) ?st ?_ ?_
   case st=>
    intro i9 v u1 u2 h hb
    match i9 with
    | 0 | 1 | 2 | 4 | 5=>exact h
    | 3 | 6 | 7=>exact RtIn.below h hb
    | 8 | _+9=>exact by obtain ⟨bz,c1,c2,c3,c4,c5,c6,c7,c8,e,hk9,hr9⟩:=(show ∃(bz:Nat) (c1:Bool) (c2:Option Addr) (c3 c4:Nat) (c5:Bool) (c6:Option Addr) (c7 c8:Nat),v=.slice (some ⟨bz,0,none⟩) 1 1∧u1.heap[bz]?=some (.cells #[.bool c1,.slice c2 c3 c4,.bool c5,.slice c6 c7 c8] 47 (0,0))∧RtIn u1 (.agg #[.bool c1,.slice c2 c3 c4,.bool c5,.slice c6 c7 c8]) (fac L (k:Int)+fac M (k:Int)) (S+S+5) from h); exact ⟨bz,c1,c2,c3,c4,c5,c6,c7,c8,e,(hb.block bz (ZL hk9)).trans hk9,hr9.below hb⟩
   refine zSc (zSo rfl ?s0) (zSc (zSo rfl ?s1) (zSc (zSo rfl ?s2) (zSc (zSo rfl ?s3) (zSc (zSo rfl ?s4) (zSc (zSo rfl ?s5) (zSc (zSo rfl ?s6) (zSc (zSo rfl ?s7) (zSc (zSo rfl ?s8) zSn))))))))
   case s0 | s2 | s5=>
    intro xs w' hb hT K9 hK9
    clear hT
    simp only[zFp,zAp,zLa,zLb,zLc,Nat.reduceAdd,zNz] at hK9⊢
    have hw:=Flow.hwD HWR.out hb
    go_simp
    exact hK9 _ _ (ZR _ _) rfl
   case s1=>
    intro xs w' hb hT K9 hK9
    clear hT
    simp only[zFp,zAp,zLa,zLb,zLc,Nat.reduceAdd,zNz] at hK9⊢
    have hw:=Flow.hwD HWR.out hb
    have kb:=(hw.block bf (ZL HKR.out.1)).trans HKR.out.1
    have y0:=ZI kb 0
    have y1:=ZI kb 1
    clear kb
    simp at y0 y1
    go_simp
    exact hK9 _ _ (ZR _ _) rfl
   case s3=>
    intro xs w' hb hT K9 hK9
    have h1:(xs 1)=.agg #[.string s,.slice ao n ca]:=hT 1 (by kernel_rfl)
    have h2:(xs 2)=.int .i64 (k:Int):=hT 2 (by kernel_rfl)
    clear hT
    simp only[zFp,zAp,zLa,zLb,zLc,Nat.reduceAdd,zNz] at hK9⊢
    have hw:=Flow.hwD HWR.out hb
    (try simp only[h1] at hK9)
    (try simp only[h2] at hK9)
    go_simp
    go_at_call 60
    refine (pfactor_any (HG.out.below (HB0.out.trans (hw.mono HB0.out.size))) (HF.out.1.below (HB0.out.trans (hw.mono HB0.out.size))) (by have:=HN.out; omega) HN.out.2.2.1 HT.out.1 (k:Int)).mono ?_
    rintro e w3 ⟨v3,rfl,hi3,hb3⟩
    exact hK9 _ _ hb3 hi3
   case s4=>
    intro xs w' hb hT K9 hK9
    clear hT
    simp only[zFp,zAp,zLa,zLb,zLc,Nat.reduceAdd,zNz] at hK9⊢
    have hw:=Flow.hwD HWR.out hb
    have kb:=(hw.block bg (ZL HKR.out.2)).trans HKR.out.2
    have y0:=ZI kb 0
    have y1:=ZI kb 1
    clear kb
    simp at y0 y1
    go_simp
    exact hK9 _ _ (ZR _ _) rfl
   case s6=>
    intro xs w' hb hT K9 hK9
    have h4:(xs 4)=.agg #[.string t,.slice ao2 m ca2]:=hT 4 (by kernel_rfl)
    have h5:(xs 5)=.int .i64 (k:Int):=hT 5 (by kernel_rfl)
    clear hT
    simp only[zFp,zAp,zLa,zLb,zLc,Nat.reduceAdd,zNz] at hK9⊢
    have hw:=Flow.hwD HWR.out hb
    (try simp only[h4] at hK9)
    (try simp only[h5] at hK9)
    go_simp
    go_at_call 60
    refine (pfactor_any (HG.out.below (HB0.out.trans (hw.mono HB0.out.size))) (HF.out.2.below (HB0.out.trans (hw.mono HB0.out.size))) (by have:=HN.out; omega) HN.out.2.2.1 HT.out.2 (k:Int)).mono ?_
    rintro e w3 ⟨v3,rfl,hi3,hb3⟩
    exact hK9 _ _ hb3 hi3
   case s7=>
    intro xs w' hb hT K9 hK9
    have h3:RtIn w' (xs 3) (fac L (k:Int)) (S+2):=hT 3 (by kernel_rfl)
    have h6:RtIn w' (xs 6) (fac M (k:Int)) (S+2):=hT 6 (by kernel_rfl)
    clear hT
    simp only[zFp,zAp,zLa,zLb,zLc,Nat.reduceAdd,zNz] at hK9⊢
    have hw:=Flow.hwD HWR.out hb
    go_simp
    go_at_call 59
    refine (ratAdd_any h3 h6 (by omega) (by omega) (by have:=HN.out; omega)).mono ?_
    rintro e w3 ⟨v3,rfl,hi3,hb3⟩
    exact hK9 _ _ hb3 (hi3.more (by omega))
   case s8=>
    intro xs w' hb hT K9 hK9
    have h7:RtIn w' (xs 7) (fac L (k:Int)+fac M (k:Int)) (S+S+5):=hT 7 (by kernel_rfl)
    clear hT
    simp only[zFp,zAp,zLa,zLb,zLc,Nat.reduceAdd,zNz] at hK9⊢
    have hw:=Flow.hwD HWR.out hb
    obtain ⟨c1,c2,c3,c4,c5,c6,c7,c8,e16⟩:=rt_shape h7
    rw[e16] at h7
    simp only[e16] at hK9
    go_simp
    exact hK9 _ _ ((ZR _ _).alloc (Nat.le_refl _) _) ⟨_,c1,c2,c3,c4,c5,c6,c7,c8,rfl,ZW _ _,h7.below ((ZR _ _).alloc (Nat.le_refl _) _)⟩
   intro xs w' hb hT
   have hw:=Flow.hwD HWR.out hb
   have h0:(xs 0)=.slice aa k ac:=hT 0 (by rfl)
   have h8:∃(bz:Nat) (c1:Bool) (c2:Option Addr) (c3 c4:Nat) (c5:Bool) (c6:Option Addr) (c7 c8:Nat),(xs 8)=.slice (some ⟨bz,0,none⟩) 1 1∧w'.heap[bz]?=some (.cells #[.bool c1,.slice c2 c3 c4,.bool c5,.slice c6 c7 c8] 47 (0,0))∧RtIn w' (.agg #[.bool c1,.slice c2 c3 c4,.bool c5,.slice c6 c7 c8]) (fac L (k:Int)+fac M (k:Int)) (S+S+5):=hT 8 (by rfl)
   clear hT
   simp only[zFp,zAp,zLa,zLb,zLc,Nat.reduceAdd,zNz,FlowR.restL,FlowR.orM,Bool.false_or]
   obtain ⟨bz,c1,c2,c3,c4,c5,c6,c7,c8,e17,hk17,hr17⟩:=h8
   simp only[h0,e17]
   clear h0 e17 hb
   obtain ⟨v9,wN,hrun,happ,hbN⟩:=append_rat (HROW.out.below hw) (by rw[sumF_len]; have h1:=HLT.out; omega) hk17 hr17 (Nat.le_trans HBW.out.size hw.size) 61
   have HN9:=ZH (show RatApp wN wa.heap.size v9 (sumF L M (k+1)) (S+S+5) by rw[HPS.out]; exact happ)
   have HBN:=ZH (show Below wa.heap.size wa wN from (HBW.out.trans (hw.mono HBW.out.size)).trans hbN)
   clear hk17 hr17 happ hbN hw
   go_wp2_with (at_builtin; refine wpList_append_run _ rfl _ _ 61 rfl _ _ rfl rfl hrun ?_)
   go_roundg (64-(k+1))
   case measure=>have h1:=HLT.out; omega
   case rel=>exact ⟨k+1,by have:=HLT.out.1; omega,by first | (congr 1; done) | (congr 1; exact IntWalk.wrap64_in ((k:Int)+1) (by have h1:=HLT.out.1; omega)),HN9,HBN⟩
  ·have e1:((k:Int)<(64:Int))=False:=eq_false (by omega)
   obtain rfl:k=64:=by omega
   obtain ⟨aa,ac,rfl,hra⟩:=hrow.out.reads
   have hlen:=sumF_len L M 64
   have HRA:=ZH (ZN hra hlen)
   rw[hlen]
   have hb0:=HAL.out.trans (hbw.out.mono HAL.out.size)
   have HB0:=ZH hb0
   have HWR:=ZH (ZR wr.heap.size wr)
   have HKR:=ZH (ZN ((hbw.out.block bf (ZL HK.out.1)).trans HK.out.1) (ZN ((hbw.out.block bg (ZL HK.out.2.1)).trans HK.out.2.1) ((hbw.out.block br (ZL HK.out.2.2)).trans HK.out.2.2)))
   have HP1:=ZH (show ∀W,Glob W→Calls Tryz.prog 19 #[.string s] W fun e w'=>∃v,e=.returned v∧RtIn w' v (readVal c) (S+2)∧Below W.heap.size W w' from fun W hW=>by
    have hN:=HN.out
    have h:=prat_any s (by rw[hN.2.2.2.2.2.1]; show c.length≤_; omega) hW (by rw[hN.2.2.2.2.2.1]; exact HRC.out.1)
    rw[show s.data.toList=c by rw[hN.2.2.2.2.2.1]] at h
    exact h.mono fun e w' ⟨v,e1,h1,h2⟩=>⟨v,e1,h1.more (by omega),h2⟩)
   have HP2:=ZH (show ∀W,Glob W→Calls Tryz.prog 19 #[.string t] W fun e w'=>∃v,e=.returned v∧RtIn w' v (readVal d) (S+2)∧Below W.heap.size W w' from fun W hW=>by
    have hN:=HN.out
    have h:=prat_any t (by rw[hN.2.2.2.2.2.2]; show d.length≤_; omega) hW (by rw[hN.2.2.2.2.2.2]; exact HRC.out.2)
    rw[show t.data.toList=d by rw[hN.2.2.2.2.2.2]] at h
    exact h.mono fun e w' ⟨v,e1,h1,h2⟩=>⟨v,e1,h1.more (by omega),h2⟩)
   have HSS:=ZH HN.out.2.2.1
   clear hra hlen hrow hbw hb0 hlt hk
   go_upto_region 6 with fail
   clear e1
   refine FlowR.wp_region_sel (fun a b=>Below a.heap.size a b) (fun a=>ZR _ a) (fun _ _ _ h k=>h.trans (k.mono h.size)) [0,1,2,3,4,5,6,7,8] [false,false,false,false,false,false,false,false,false,false] [true,true,true,true,true,true,true,true,true,false] (fun i9 v w'=>match i9 with
    | 0=>v=.pointer (some ⟨bf,0,none⟩)
    | 1=>v=.string s
    | 2=>RtIn w' v (readVal c) (S+2)
    | 3=>v=.pointer (some ⟨bg,0,none⟩)
    | 4=>v=.string t
    | 5=>RtIn w' v (readVal d) (S+2)
    | 6=>RtIn w' v (readVal c+readVal d) (S+S+5)
    | 7=>v=.slice aa 64 ac
    | _=>∃(B9:Nat) (a9:Option Addr) (n9 c9:Nat),wr.heap.size≤B9∧v=.agg #[.string ⟨(numText (readVal c+readVal d)).toArray⟩,.slice a9 n9 c9]∧TermRow w' B9 (.slice a9 n9 c9) (sumTerms (tmap (sumF L M 64)) 64)) rfl rfl (by kernel_rfl) (by kernel_rfl) (by kernel_rfl) (by kernel_rfl) ?st ?_ ?_
   case st=>
    intro i9 v u1 u2 h hb
    match i9 with
    | 0 | 1 | 3 | 4 | 7=>exact h
    | 2 | 5 | 6=>exact RtIn.below h hb
    | 8 | _+9=>exact by obtain ⟨B9,a9,n9,c9,e9,e8,hr9⟩:=(show ∃(B9:Nat) (a9:Option Addr) (n9 c9:Nat),wr.heap.size≤B9∧v=.agg #[.string ⟨(numText (readVal c+readVal d)).toArray⟩,.slice a9 n9 c9]∧TermRow u1 B9 (.slice a9 n9 c9) (sumTerms (tmap (sumF L M 64)) 64) from h); exact ⟨B9,a9,n9,c9,e9,e8,hr9.below hb⟩
   refine zSc (zSo rfl ?s0) (zSc (zSo rfl ?s1) (zSc (zSo rfl ?s2) (zSc (zSo rfl ?s3) (zSc (zSo rfl ?s4) (zSc (zSo rfl ?s5) (zSc (zSo rfl ?s6) (zSc (zSo rfl ?s7) (zSc (zSo rfl ?s8) zSn))))))))
   case s0 | s3 | s7=>
    intro xs w' hb hT K9 hK9
    clear hT
    simp only[zFp,zAp,zLa,zLb,zLc,Nat.reduceAdd,zNz] at hK9⊢
    have hw:=Flow.hwD HWR.out hb
    go_simp
    exact hK9 _ _ (ZR _ _) rfl
   case s1=>
    intro xs w' hb hT K9 hK9
    have h0:(xs 0)=.pointer (some ⟨bf,0,none⟩):=hT 0 (by kernel_rfl)
    clear hT
    simp only[zFp,zAp,zLa,zLb,zLc,Nat.reduceAdd,zNz] at hK9⊢
    have hw:=Flow.hwD HWR.out hb
    have kb:=(hw.block bf (ZL HKR.out.1)).trans HKR.out.1
    have y0:=ZI kb 0
    clear kb
    simp at y0
    (try simp only[h0] at hK9)
    go_simp
    exact hK9 _ _ (ZR _ _) rfl
   case s2=>
    intro xs w' hb hT K9 hK9
    have h1:(xs 1)=.string s:=hT 1 (by kernel_rfl)
    clear hT
    simp only[zFp,zAp,zLa,zLb,zLc,Nat.reduceAdd,zNz] at hK9⊢
    have hw:=Flow.hwD HWR.out hb
    (try simp only[h1] at hK9)
    go_simp
    go_at_call 19
    refine (HP1.out _ (HG.out.below (HB0.out.trans (hw.mono HB0.out.size)))).mono ?_
    rintro e w3 ⟨v3,rfl,hi3,hb3⟩
    exact hK9 _ _ hb3 hi3
   case s4=>
    intro xs w' hb hT K9 hK9
    have h3:(xs 3)=.pointer (some ⟨bg,0,none⟩):=hT 3 (by kernel_rfl)
    clear hT
    simp only[zFp,zAp,zLa,zLb,zLc,Nat.reduceAdd,zNz] at hK9⊢
    have hw:=Flow.hwD HWR.out hb
    have kb:=(hw.block bg (ZL HKR.out.2.1)).trans HKR.out.2.1
    have y0:=ZI kb 0
    clear kb
    simp at y0
    (try simp only[h3] at hK9)
    go_simp
    exact hK9 _ _ (ZR _ _) rfl
   case s5=>
    intro xs w' hb hT K9 hK9
    have h4:(xs 4)=.string t:=hT 4 (by kernel_rfl)
    clear hT
    simp only[zFp,zAp,zLa,zLb,zLc,Nat.reduceAdd,zNz] at hK9⊢
    have hw:=Flow.hwD HWR.out hb
    (try simp only[h4] at hK9)
    go_simp
    go_at_call 19
    refine (HP2.out _ (HG.out.below (HB0.out.trans (hw.mono HB0.out.size)))).mono ?_
    rintro e w3 ⟨v3,rfl,hi3,hb3⟩
    exact hK9 _ _ hb3 hi3
   case s6=>
    intro xs w' hb hT K9 hK9
    have h2:RtIn w' (xs 2) (readVal c) (S+2):=hT 2 (by kernel_rfl)
    have h5:RtIn w' (xs 5) (readVal d) (S+2):=hT 5 (by kernel_rfl)
    clear hT
    simp only[zFp,zAp,zLa,zLb,zLc,Nat.reduceAdd,zNz] at hK9⊢
    have hw:=Flow.hwD HWR.out hb
    go_simp
    go_at_call 59
    refine (ratAdd_any h2 h5 (by omega) (by omega) (by have:=HSS.out; omega)).mono ?_
    rintro e w3 ⟨v3,rfl,hi3,hb3⟩
    exact hK9 _ _ hb3 (hi3.more (by omega))
   case s8=>
    intro xs w' hb hT K9 hK9
    have h6:RtIn w' (xs 6) (readVal c+readVal d) (S+S+5):=hT 6 (by kernel_rfl)
    have h7:(xs 7)=.slice aa 64 ac:=hT 7 (by kernel_rfl)
    clear hT
    simp only[zFp,zAp,zLa,zLb,zLc,Nat.reduceAdd,zNz] at hK9⊢
    have hw:=Flow.hwD HWR.out hb
    (try simp only[h7] at hK9)
    have hpf:=pform_any (HG.out.below (HB0.out.trans (hw.mono HB0.out.size))) h6 (by have:=HSS.out; omega) ((HRA.out.1.below hw)) (by rw[HRA.out.2]; omega) (by have:=HSS.out; omega)
    rw[HRA.out.2] at hpf
    go_simp
    go_at_call 61
    refine hpf.mono ?_
    rintro e w3 ⟨v3,rfl,⟨tv3,rfl,hi3⟩,hb3⟩
    obtain ⟨a9,n9,c9,rfl⟩:=hi3.shape
    exact hK9 _ _ hb3 ⟨_,a9,n9,c9,hw.size,rfl,hi3⟩
   intro xs w' hb hT
   have hw:=Flow.hwD HWR.out hb
   have h8:∃(B9:Nat) (a9:Option Addr) (n9 c9:Nat),wr.heap.size≤B9∧(xs 8)=.agg #[.string ⟨(numText (readVal c+readVal d)).toArray⟩,.slice a9 n9 c9]∧TermRow w' B9 (.slice a9 n9 c9) (sumTerms (tmap (sumF L M 64)) 64):=hT 8 (by rfl)
   clear hT
   simp only[zFp,zAp,zLa,zLb,zLc,Nat.reduceAdd,zNz,FlowR.restL,FlowR.orM,Bool.false_or]
   obtain ⟨B9,a9,n9,c9,hB9,e9,hr9⟩:=h8
   simp only[e9]
   clear e9 hb
   have kbr:=(hw.block br (ZL HKR.out.2.2)).trans HKR.out.2.2
   have f0:=ZF kbr 0
   have f1:=ZF kbr 1
   obtain ⟨z0,z1⟩:=cells2 (ZR _ w') kbr
   obtain ⟨NS,hNS⟩:∃x:ByteArray,x=⟨(numText (readVal c+readVal d)).toArray⟩:=⟨_,rfl⟩
   rw[←hNS]
   have hlb:br<B9:=Nat.lt_of_lt_of_le (ZL HKR.out.2.2) hB9
   have hr:=(hr9.set hlb 0 (.string NS)).set hlb 1 (.slice a9 n9 c9)
   have hbb:=((HB0.out.trans (hw.mono HB0.out.size)).setCell (p:=⟨br,0,none⟩) HNE.out.2.2 (.string NS)).setCell (p:=⟨br,1,none⟩) HNE.out.2.2 (.slice a9 n9 c9)
   have hle:w.heap.size≤B9:=Nat.le_trans HB0.out.size hB9
   have HFF:=ZH (ZN hr (ZN hbb (ZN hNS hle)))
   clear hr hbb hNS hle hr9 hB9 hlb hw kbr
   go_wp2_with fail
   refine bodyPost_ret (v:=.agg #[.string NS,.slice a9 n9 c9]) (by simp[results,Tryz.results21,go_sem,z0,z1]) rfl ⟨_,rfl,⟨_,by rw[HFF.out.2.2.1],?_⟩,HFF.out.2.1⟩
   exact World.ownsRow.mono HFF.out.1 HFF.out.2.2.2
def mulF (L:List (Nat×List UInt8)) (r:Rat) (k:Nat):List Rat:=(List.range k).map fun i:Nat=>fac L (i:Int)*r
theorem mulF_succ (L:List (Nat×List UInt8)) (r:Rat) (k:Nat):mulF L r (k+1)=mulF L r k++[fac L (k:Int)*r]:=by
 unfold mulF
 rw[List.range_succ,List.map_append]
 rfl
theorem mulF_len (L:List (Nat×List UInt8)) (r:Rat) (k:Nat):(mulF L r k).length=k:=by unfold mulF; simp
theorem pscale_any {w:World} (hg:Glob w) {vf vr:Value} {c:List UInt8} {L:List (Nat×List UInt8)} (hf:FormAt w vf c L) {r:Rat} {kr:Nat} (hr:RtIn w vr r kr) (hkr:2≤kr∧kr≤60000) (hL:L.length≤1000) {S:Nat} (hS:S≤60000) (hc:c.length≤S) (hc0:readErr c 400=0)
  (ht:∀j,j<L.length→(L.getD j (0,[])).2.length≤S∧readErr (L.getD j (0,[])).2 400=0) :
  Calls Tryz.prog 23 #[vf,vr] w fun e w'=>∃v,e=.returned v∧FormIn w' w.heap.size v (numText (readVal c*r)) (sumTerms (tmap (mulF L r 64)) 64)∧Below w.heap.size w w':=by
 obtain ⟨p1,g1,f1,n1,p2,g2,f2,n2,rfl⟩:=rt_shape hr
 have HF:=ZH hf
 have HRR:=ZH hr
 obtain ⟨tv,rfl,ao,ca,rfl,hta,htb,-⟩:=hf
 obtain ⟨n,hn⟩:∃n,n=L.length:=⟨_,rfl⟩
 obtain ⟨s,hs⟩:∃s:ByteArray,s=⟨c.toArray⟩:=⟨_,rfl⟩
 obtain ⟨wa,bf,bg,br,hwa,hbf,hbg,hbr,hal,k0,k1,k2⟩:=new_three w #[.string s,.slice ao n ca] #[.bool p1,.slice g1 f1 n1,.bool p2,.slice g2 f2 n2] #[.string ⟨#[]⟩,.slice none 0 0] 27 47 27
 rw[←hn,←hs] at HF
 have HG:=ZH hg
 have HAL:=ZH hal
 have HK:=ZH (ZN k0 (ZN k1 k2))
 have HT:=ZH ht
 have HN:=ZH (ZN hL (ZN hkr (ZN hS (ZN hc hs))))
 have HNE:=ZH (show bf≠br∧bg≠br∧w.heap.size≤br by omega)
 have HRC:=ZH hc0
 have HW:=ZH (ZN hwa (ZN hbf (ZN hbg hbr)))
 rw[←hn,←hs]
 clear hg hal k0 k1 k2 ht hL hS hc hs hwa hbf hbg hbr hta htb hn hc0 hkr hr
 go_enter Tryz.func23,Tryz.ntmps23
 go_upto_region 1 with fail
 rw[←HW.out.1,←HW.out.2.2.2,←HW.out.2.2.1,←HW.out.2.1]
 clear HW
 go_wp2_with fail
 go_loopg [5,6] 64 (fun gk va i wr=>∃k:Nat,k+gk=64∧i=.int .i64 k∧Hid (RatApp wr wa.heap.size va (mulF L r k) (S+kr+5))∧Hid (Below wa.heap.size wa wr))
 case atStart=>exact ⟨0,by omega,rfl,ZH (by rw[show mulF L r 0 = [] from rfl]; exact ratApp_nil _ _ _),ZH (ZR _ _)⟩
 case round=>
  obtain ⟨k,hk,rfl,hrow,hbw⟩:=hrel
  by_cases hlt:k<64
  ·have e1:((k:Int)<(64:Int))=True:=eq_true (by omega)
   obtain ⟨aa,ac,rfl,-,-⟩:=RatApp.shape hrow.out
   have hst:=hrow.out
   rw[mulF_len] at hst⊢
   have HROW:=ZH hst
   have HBW:=ZH hbw.out
   have HLT:=ZH (ZN hlt hk)
   have HWR:=ZH (ZR wr.heap.size wr)
   have HPS:=ZH (mulF_succ L r k)
   have hb0:=HAL.out.trans (hbw.out.mono HAL.out.size)
   have HB0:=ZH hb0
   have HKR:=ZH (ZN ((hbw.out.block bf (ZL HK.out.1)).trans HK.out.1) ((hbw.out.block bg (ZL HK.out.2.1)).trans HK.out.2.1))
   clear hst hrow hbw hb0 hlt hk
   go_upto_region 5 with fail
   clear e1
   refine FlowR.wp_region_sel (fun a b=>Below a.heap.size a b) (fun a=>ZR _ a) (fun _ _ _ h k=>h.trans (k.mono h.size)) [0,1,2,3,4,5,6] [false,false,false,false,false,false,false,false,false] [true,true,true,true,true,true,true,false,false] (fun i9 v w'=>match i9 with
    | 0=>v=.slice aa k ac
    | 1=>v=.agg #[.string s,.slice ao n ca]
    | 2=>v=.int .i64 (k:Int)
    | 3=>RtIn w' v (fac L (k:Int)) (S+2)
    | 4=>v=.agg #[.bool p1,.slice g1 f1 n1,.bool p2,.slice g2 f2 n2]
    | 5=>RtIn w' v (fac L (k:Int)*r) (S+kr+5)
    | _=>∃(bz:Nat) (c1:Bool) (c2:Option Addr) (c3 c4:Nat) (c5:Bool) (c6:Option Addr) (c7 c8:Nat),v=.slice (some ⟨bz,0,none⟩) 1 1∧w'.heap[bz]?=some (.cells #[.bool c1,.slice c2 c3 c4,.bool c5,.slice c6 c7 c8] 47 (0,0))∧RtIn w' (.agg #[.bool c1,.slice c2 c3 c4,.bool c5,.slice c6 c7 c8]) (fac L (k:Int)*r) (S+kr+5)) rfl rfl (by kernel_rfl) (by kernel_rfl) (by kernel_rfl) (by kernel_rfl) ?st ?_ ?_
   case st=>
    intro i9 v u1 u2 h hb
    match i9 with
    | 0 | 1 | 2 | 4=>exact h
    | 3 | 5=>exact RtIn.below h hb
    | 6 | _+7=>exact by obtain ⟨bz,c1,c2,c3,c4,c5,c6,c7,c8,e,hk9,hr9⟩:=(show ∃(bz:Nat) (c1:Bool) (c2:Option Addr) (c3 c4:Nat) (c5:Bool) (c6:Option Addr) (c7 c8:Nat),v=.slice (some ⟨bz,0,none⟩) 1 1∧u1.heap[bz]?=some (.cells #[.bool c1,.slice c2 c3 c4,.bool c5,.slice c6 c7 c8] 47 (0,0))∧RtIn u1 (.agg #[.bool c1,.slice c2 c3 c4,.bool c5,.slice c6 c7 c8]) (fac L (k:Int)*r) (S+kr+5) from h); exact ⟨bz,c1,c2,c3,c4,c5,c6,c7,c8,e,(hb.block bz (ZL hk9)).trans hk9,hr9.below hb⟩
   refine zSc (zSo rfl ?s0) (zSc (zSo rfl ?s1) (zSc (zSo rfl ?s2) (zSc (zSo rfl ?s3) (zSc (zSo rfl ?s4) (zSc (zSo rfl ?s5) (zSc (zSo rfl ?s6) zSn))))))
   case s0 | s2=>
    intro xs w' hb hT K9 hK9
    clear hT
    simp only[zFp,zAp,zLa,zLb,zLc,Nat.reduceAdd,zNz] at hK9⊢
    have hw:=Flow.hwD HWR.out hb
    go_simp
    exact hK9 _ _ (ZR _ _) rfl
   case s1=>
    intro xs w' hb hT K9 hK9
    clear hT
    simp only[zFp,zAp,zLa,zLb,zLc,Nat.reduceAdd,zNz] at hK9⊢
    have hw:=Flow.hwD HWR.out hb
    have kb:=(hw.block bf (ZL HKR.out.1)).trans HKR.out.1
    have y0:=ZI kb 0
    have y1:=ZI kb 1
    clear kb
    simp at y0 y1
    go_simp
    exact hK9 _ _ (ZR _ _) rfl
   case s3=>
    intro xs w' hb hT K9 hK9
    have h1:(xs 1)=.agg #[.string s,.slice ao n ca]:=hT 1 (by kernel_rfl)
    have h2:(xs 2)=.int .i64 (k:Int):=hT 2 (by kernel_rfl)
    clear hT
    simp only[zFp,zAp,zLa,zLb,zLc,Nat.reduceAdd,zNz] at hK9⊢
    have hw:=Flow.hwD HWR.out hb
    (try simp only[h1] at hK9)
    (try simp only[h2] at hK9)
    go_simp
    go_at_call 60
    refine (pfactor_any (HG.out.below (HB0.out.trans (hw.mono HB0.out.size))) (HF.out.below (HB0.out.trans (hw.mono HB0.out.size))) (by have:=HN.out; omega) HN.out.2.2.1 HT.out (k:Int)).mono ?_
    rintro e w3 ⟨v3,rfl,hi3,hb3⟩
    exact hK9 _ _ hb3 hi3
   case s4=>
    intro xs w' hb hT K9 hK9
    clear hT
    simp only[zFp,zAp,zLa,zLb,zLc,Nat.reduceAdd,zNz] at hK9⊢
    have hw:=Flow.hwD HWR.out hb
    obtain ⟨y0,y1,y2,y3⟩:=cells4 hw HKR.out.2
    go_simp
    exact hK9 _ _ (ZR _ _) rfl
   case s5=>
    intro xs w' hb hT K9 hK9
    have h3:RtIn w' (xs 3) (fac L (k:Int)) (S+2):=hT 3 (by kernel_rfl)
    have h4:(xs 4)=.agg #[.bool p1,.slice g1 f1 n1,.bool p2,.slice g2 f2 n2]:=hT 4 (by kernel_rfl)
    clear hT
    simp only[zFp,zAp,zLa,zLb,zLc,Nat.reduceAdd,zNz] at hK9⊢
    have hw:=Flow.hwD HWR.out hb
    (try simp only[h4] at hK9)
    go_simp
    go_at_call 62
    refine (ratMul_any h3 (HRR.out.below (HB0.out.trans (hw.mono HB0.out.size))) (by omega) HN.out.2.1.1 (by have:=HN.out; omega)).mono ?_
    rintro e w3 ⟨v3,rfl,hi3,hb3⟩
    exact hK9 _ _ hb3 (hi3.more (by omega))
   case s6=>
    intro xs w' hb hT K9 hK9
    have h5:RtIn w' (xs 5) (fac L (k:Int)*r) (S+kr+5):=hT 5 (by kernel_rfl)
    clear hT
    simp only[zFp,zAp,zLa,zLb,zLc,Nat.reduceAdd,zNz] at hK9⊢
    have hw:=Flow.hwD HWR.out hb
    obtain ⟨c1,c2,c3,c4,c5,c6,c7,c8,e16⟩:=rt_shape h5
    rw[e16] at h5
    simp only[e16] at hK9
    go_simp
    exact hK9 _ _ ((ZR _ _).alloc (Nat.le_refl _) _) ⟨_,c1,c2,c3,c4,c5,c6,c7,c8,rfl,ZW _ _,h5.below ((ZR _ _).alloc (Nat.le_refl _) _)⟩
   intro xs w' hb hT
   have hw:=Flow.hwD HWR.out hb
   have h0:(xs 0)=.slice aa k ac:=hT 0 (by rfl)
   have h6:∃(bz:Nat) (c1:Bool) (c2:Option Addr) (c3 c4:Nat) (c5:Bool) (c6:Option Addr) (c7 c8:Nat),(xs 6)=.slice (some ⟨bz,0,none⟩) 1 1∧w'.heap[bz]?=some (.cells #[.bool c1,.slice c2 c3 c4,.bool c5,.slice c6 c7 c8] 47 (0,0))∧RtIn w' (.agg #[.bool c1,.slice c2 c3 c4,.bool c5,.slice c6 c7 c8]) (fac L (k:Int)*r) (S+kr+5):=hT 6 (by rfl)
   clear hT
   simp only[zFp,zAp,zLa,zLb,zLc,Nat.reduceAdd,zNz,FlowR.restL,FlowR.orM,Bool.false_or]
   obtain ⟨bz,c1,c2,c3,c4,c5,c6,c7,c8,e17,hk17,hr17⟩:=h6
   simp only[h0,e17]
   clear h0 e17 hb
   obtain ⟨v9,wN,hrun,happ,hbN⟩:=append_rat (HROW.out.below hw) (by rw[mulF_len]; have h1:=HLT.out; omega) hk17 hr17 (Nat.le_trans HBW.out.size hw.size) 61
   have HN9:=ZH (show RatApp wN wa.heap.size v9 (mulF L r (k+1)) (S+kr+5) by rw[HPS.out]; exact happ)
   have HBN:=ZH (show Below wa.heap.size wa wN from (HBW.out.trans (hw.mono HBW.out.size)).trans hbN)
   clear hk17 hr17 happ hbN hw
   go_wp2_with (at_builtin; refine wpList_append_run _ rfl _ _ 61 rfl _ _ rfl rfl hrun ?_)
   go_roundg (64-(k+1))
   case measure=>have h1:=HLT.out; omega
   case rel=>exact ⟨k+1,by have:=HLT.out.1; omega,by first | (congr 1; done) | (congr 1; exact IntWalk.wrap64_in ((k:Int)+1) (by have h1:=HLT.out.1; omega)),HN9,HBN⟩
  ·have e1:((k:Int)<(64:Int))=False:=eq_false (by omega)
   obtain rfl:k=64:=by omega
   obtain ⟨aa,ac,rfl,hra⟩:=hrow.out.reads
   have hlen:=mulF_len L r 64
   have HRA:=ZH (ZN hra hlen)
   rw[hlen]
   have hb0:=HAL.out.trans (hbw.out.mono HAL.out.size)
   have HB0:=ZH hb0
   have HWR:=ZH (ZR wr.heap.size wr)
   have HKR:=ZH (ZN ((hbw.out.block bf (ZL HK.out.1)).trans HK.out.1) (ZN ((hbw.out.block bg (ZL HK.out.2.1)).trans HK.out.2.1) ((hbw.out.block br (ZL HK.out.2.2)).trans HK.out.2.2)))
   have HP1:=ZH (show ∀W,Glob W→Calls Tryz.prog 19 #[.string s] W fun e w'=>∃v,e=.returned v∧RtIn w' v (readVal c) (S+2)∧Below W.heap.size W w' from fun W hW=>by
    have hN:=HN.out
    have h:=prat_any s (by rw[hN.2.2.2.2]; show c.length≤_; omega) hW (by rw[hN.2.2.2.2]; exact HRC.out)
    rw[show s.data.toList=c by rw[hN.2.2.2.2]] at h
    exact h.mono fun e w' ⟨v,e1,h1,h2⟩=>⟨v,e1,h1.more (by omega),h2⟩)
   have HSS:=ZH (ZN HN.out.2.2.1 HN.out.2.1)
   clear hra hlen hrow hbw hb0 hlt hk
   go_upto_region 6 with fail
   clear e1
   refine FlowR.wp_region_sel (fun a b=>Below a.heap.size a b) (fun a=>ZR _ a) (fun _ _ _ h k=>h.trans (k.mono h.size)) [0,1,2,3,4,5,6] [false,false,false,false,false,false,false,false] [true,true,true,true,true,true,true,false] (fun i9 v w'=>match i9 with
    | 0=>v=.pointer (some ⟨bf,0,none⟩)
    | 1=>v=.string s
    | 2=>RtIn w' v (readVal c) (S+2)
    | 3=>v=.agg #[.bool p1,.slice g1 f1 n1,.bool p2,.slice g2 f2 n2]
    | 4=>RtIn w' v (readVal c*r) (S+kr+5)
    | 5=>v=.slice aa 64 ac
    | _=>∃(B9:Nat) (a9:Option Addr) (n9 c9:Nat),wr.heap.size≤B9∧v=.agg #[.string ⟨(numText (readVal c*r)).toArray⟩,.slice a9 n9 c9]∧TermRow w' B9 (.slice a9 n9 c9) (sumTerms (tmap (mulF L r 64)) 64)) rfl rfl (by kernel_rfl) (by kernel_rfl) (by kernel_rfl) (by kernel_rfl) ?st ?_ ?_
   case st=>
    intro i9 v u1 u2 h hb
    match i9 with
    | 0 | 1 | 3 | 5=>exact h
    | 2 | 4=>exact RtIn.below h hb
    | 6 | _+7=>exact by obtain ⟨B9,a9,n9,c9,e9,e8,hr9⟩:=(show ∃(B9:Nat) (a9:Option Addr) (n9 c9:Nat),wr.heap.size≤B9∧v=.agg #[.string ⟨(numText (readVal c*r)).toArray⟩,.slice a9 n9 c9]∧TermRow u1 B9 (.slice a9 n9 c9) (sumTerms (tmap (mulF L r 64)) 64) from h); exact ⟨B9,a9,n9,c9,e9,e8,hr9.below hb⟩
   refine zSc (zSo rfl ?s0) (zSc (zSo rfl ?s1) (zSc (zSo rfl ?s2) (zSc (zSo rfl ?s3) (zSc (zSo rfl ?s4) (zSc (zSo rfl ?s5) (zSc (zSo rfl ?s6) zSn))))))
   case s0 | s5=>
    intro xs w' hb hT K9 hK9
    clear hT
    simp only[zFp,zAp,zLa,zLb,zLc,Nat.reduceAdd,zNz] at hK9⊢
    have hw:=Flow.hwD HWR.out hb
    go_simp
    exact hK9 _ _ (ZR _ _) rfl
   case s1=>
    intro xs w' hb hT K9 hK9
    have h0:(xs 0)=.pointer (some ⟨bf,0,none⟩):=hT 0 (by kernel_rfl)
    clear hT
    simp only[zFp,zAp,zLa,zLb,zLc,Nat.reduceAdd,zNz] at hK9⊢
    have hw:=Flow.hwD HWR.out hb
    have kb:=(hw.block bf (ZL HKR.out.1)).trans HKR.out.1
    have y0:=ZI kb 0
    clear kb
    simp at y0
    (try simp only[h0] at hK9)
    go_simp
    exact hK9 _ _ (ZR _ _) rfl
   case s2=>
    intro xs w' hb hT K9 hK9
    have h1:(xs 1)=.string s:=hT 1 (by kernel_rfl)
    clear hT
    simp only[zFp,zAp,zLa,zLb,zLc,Nat.reduceAdd,zNz] at hK9⊢
    have hw:=Flow.hwD HWR.out hb
    (try simp only[h1] at hK9)
    go_simp
    go_at_call 19
    refine (HP1.out _ (HG.out.below (HB0.out.trans (hw.mono HB0.out.size)))).mono ?_
    rintro e w3 ⟨v3,rfl,hi3,hb3⟩
    exact hK9 _ _ hb3 hi3
   case s3=>
    intro xs w' hb hT K9 hK9
    clear hT
    simp only[zFp,zAp,zLa,zLb,zLc,Nat.reduceAdd,zNz] at hK9⊢
    have hw:=Flow.hwD HWR.out hb
    obtain ⟨y0,y1,y2,y3⟩:=cells4 hw HKR.out.2.1
    go_simp
    exact hK9 _ _ (ZR _ _) rfl
   case s4=>
    intro xs w' hb hT K9 hK9
    have h2:RtIn w' (xs 2) (readVal c) (S+2):=hT 2 (by kernel_rfl)
    have h3:(xs 3)=.agg #[.bool p1,.slice g1 f1 n1,.bool p2,.slice g2 f2 n2]:=hT 3 (by kernel_rfl)
    clear hT
    simp only[zFp,zAp,zLa,zLb,zLc,Nat.reduceAdd,zNz] at hK9⊢
    have hw:=Flow.hwD HWR.out hb
    (try simp only[h3] at hK9)
    go_simp
    go_at_call 62
    refine (ratMul_any h2 (HRR.out.below (HB0.out.trans (hw.mono HB0.out.size))) (by omega) HSS.out.2.1 (by have:=HSS.out; omega)).mono ?_
    rintro e w3 ⟨v3,rfl,hi3,hb3⟩
    exact hK9 _ _ hb3 (hi3.more (by omega))
   case s6=>
    intro xs w' hb hT K9 hK9
    have h4:RtIn w' (xs 4) (readVal c*r) (S+kr+5):=hT 4 (by kernel_rfl)
    have h5:(xs 5)=.slice aa 64 ac:=hT 5 (by kernel_rfl)
    clear hT
    simp only[zFp,zAp,zLa,zLb,zLc,Nat.reduceAdd,zNz] at hK9⊢
    have hw:=Flow.hwD HWR.out hb
    (try simp only[h5] at hK9)
    have hpf:=pform_any (HG.out.below (HB0.out.trans (hw.mono HB0.out.size))) h4 (by have:=HSS.out; omega) ((HRA.out.1.below hw)) (by rw[HRA.out.2]; omega) (by have:=HSS.out; omega)
    rw[HRA.out.2] at hpf
    go_simp
    go_at_call 61
    refine hpf.mono ?_
    rintro e w3 ⟨v3,rfl,⟨tv3,rfl,hi3⟩,hb3⟩
    obtain ⟨a9,n9,c9,rfl⟩:=hi3.shape
    exact hK9 _ _ hb3 ⟨_,a9,n9,c9,hw.size,rfl,hi3⟩
   intro xs w' hb hT
   have hw:=Flow.hwD HWR.out hb
   have h6:∃(B9:Nat) (a9:Option Addr) (n9 c9:Nat),wr.heap.size≤B9∧(xs 6)=.agg #[.string ⟨(numText (readVal c*r)).toArray⟩,.slice a9 n9 c9]∧TermRow w' B9 (.slice a9 n9 c9) (sumTerms (tmap (mulF L r 64)) 64):=hT 6 (by rfl)
   clear hT
   simp only[zFp,zAp,zLa,zLb,zLc,Nat.reduceAdd,zNz,FlowR.restL,FlowR.orM,Bool.false_or]
   obtain ⟨B9,a9,n9,c9,hB9,e9,hr9⟩:=h6
   simp only[e9]
   clear e9 hb
   have kbr:=(hw.block br (ZL HKR.out.2.2)).trans HKR.out.2.2
   have f0:=ZF kbr 0
   have f1:=ZF kbr 1
   obtain ⟨z0,z1⟩:=cells2 (ZR _ w') kbr
   obtain ⟨NS,hNS⟩:∃x:ByteArray,x=⟨(numText (readVal c*r)).toArray⟩:=⟨_,rfl⟩
   rw[←hNS]
   have hlb:br<B9:=Nat.lt_of_lt_of_le (ZL HKR.out.2.2) hB9
   have hr:=(hr9.set hlb 0 (.string NS)).set hlb 1 (.slice a9 n9 c9)
   have hbb:=((HB0.out.trans (hw.mono HB0.out.size)).setCell (p:=⟨br,0,none⟩) HNE.out.2.2 (.string NS)).setCell (p:=⟨br,1,none⟩) HNE.out.2.2 (.slice a9 n9 c9)
   have hle:w.heap.size≤B9:=Nat.le_trans HB0.out.size hB9
   have HFF:=ZH (ZN hr (ZN hbb (ZN hNS hle)))
   clear hr hbb hNS hle hr9 hB9 hlb hw kbr
   go_wp2_with fail
   refine bodyPost_ret (v:=.agg #[.string NS,.slice a9 n9 c9]) (by simp[results,Tryz.results23,go_sem,z0,z1]) rfl ⟨_,rfl,⟨_,by rw[HFF.out.2.2.1],?_⟩,HFF.out.2.1⟩
   exact World.ownsRow.mono HFF.out.1 HFF.out.2.2.2
theorem pcheckNumber_any (s:ByteArray) (hs:s.size≤4294967280) {w:World} (hg:Glob w):Calls Tryz.prog 56 #[.string s] w fun e w'=>e=.returned (.int .i64 (readErr s.data.toList 400))∧Below w.heap.size w w':=by
 have hlen:s.data.toList.length=s.size:=by rw[Array.length_toList]; rfl
 by_cases h4:400<s.size
 ·have e1:((400:Int)<(s.size:Int))=True:=eq_true (by omega)
  have HE:=ZH (show readErr s.data.toList 400=5 by unfold readErr; rw[if_pos (by omega)])
  clear h4 hlen
  go_enter Tryz.func56,Tryz.ntmps56
  go_wp2_with fail
  go_ret
  exact ⟨by rw[HE.out]; rfl,ZR _ _⟩
 ·have e1:((400:Int)<(s.size:Int))=False:=eq_false (by omega)
  have HR:=ZH (Parse_any' s hs hg)
  clear h4 hlen
  go_enter Tryz.func56,Tryz.ntmps56
  go_wp2_with fail
  refine HR.out.mono ?_
  rintro e w1 ⟨v,rfl,hok,hno,hb1⟩
  obtain ⟨E,hE⟩:∃E,E=readErr s.data.toList 400:=⟨_,rfl⟩
  rw[←hE] at hok hno⊢
  have hv:∃s1 a1 c1 l1 s2 a2 c2 l2,v=.agg #[.bool s1,.slice a1 c1 l1,.bool s2,.slice a2 c2 l2]:=by
   by_cases h:E=0
   ·exact rt_shape (hok h)
   ·exact ⟨_,_,_,_,_,_,_,_,hno h⟩
  obtain ⟨s1,a1,c1,l1,s2,a2,c2,l2,rfl⟩:=hv
  obtain ⟨w2,b2,hw2,hb2,hl2,k2⟩:=new_box w1 #[.bool s1,.slice a1 c1 l1,.bool s2,.slice a2 c2 l2] 47
  have HF:=ZH (hb1.trans (hl2.mono hb1.size))
  have HW:=ZH hw2
  have HE:=ZH hE
  clear hok hno hb1 hb2 hl2 k2 hw2 hE
  go_upto_region 4 with fail
  rw[←HW.out]
  clear HW
  go_wp2_with fail
  go_ret
  exact ⟨by rw[←HE.out]; rfl,HF.out⟩
theorem pcheckForm_any {w:World} (hg:Glob w) {v:Value} {c:List UInt8} {L:List (Int×List UInt8)} (hf:FormZ w v c L) (hc:c.length≤4294967280) (ht:∀p,p∈L→p.2.length≤4294967280) (nv:Int) :
  Calls Tryz.prog 18 #[v,.int .i64 nv] w fun e w'=>e=.returned (.int .i64 (formErr c L nv))∧Below w.heap.size w w':=by
 obtain ⟨tv,rfl,ao,ca,rfl,hta,htb,htc⟩:=hf
 obtain ⟨n,hn⟩:∃n,n=L.length:=⟨_,rfl⟩
 obtain ⟨s,hs⟩:∃s:ByteArray,s=⟨c.toArray⟩:=⟨_,rfl⟩
 obtain ⟨wa,hwa⟩:∃wa,wa=w.alloc (.cells #[.string s,.slice ao n ca] 27):=⟨_,rfl⟩
 obtain ⟨bf,hbf⟩:∃b,b=w.heap.size:=⟨_,rfl⟩
 have hal:Below w.heap.size w wa:=by rw[hwa]; exact (ZR _ w).alloc (Nat.le_refl _) _
 have k0:wa.heap[bf]?=some (.cells #[.string s,.slice ao n ca] 27 (0,0)):=by rw[hwa,hbf]; exact ZW w _
 have hcap:n≤ca∧ca≤9223372036854775807:=by rw[hn]; exact ⟨hta,htb⟩
 have hnum:=pcheckNumber_any s (by
  have h1:s.size=c.length:=by rw[hs]; simp[ByteArray.size]
  omega) (hg.below hal)
 obtain ⟨E0,hE0⟩:∃x,x=readErr c 400:=⟨_,rfl⟩
 obtain ⟨FE,hFE⟩:∃x,x=formErr c L nv:=⟨_,rfl⟩
 rw[show s.data.toList=c by rw[hs],←hE0] at hnum
 have hFE2:FE=if nv<0∨64<nv then 2 else if E0≠0 then E0 else if 64<n then 6 else fstErr (stepErr nv L) n:=by rw[hFE,hE0,hn]; rfl
 rw[←hn,←hs,←hFE]
 have HNUM:=ZH hnum
 have HG:=ZH (hg.below hal)
 have HTC:=ZH htc
 have HT:=ZH ht
 have HAL:=ZH hal
 have HK0:=ZH k0
 have HN:=ZH hn
 have HFE:=ZH hFE2
 have HW:=ZH (ZN hwa hbf)
 have s0:=ZI k0 0
 have s1:=ZI k0 1
 simp at s0 s1
 clear hwa hbf hal k0 hg hta htb htc ht hc hs hnum hn hE0 hFE hFE2
 go_enter Tryz.func18,Tryz.ntmps18
 go_upto_region 1 with fail
 rw[←HW.out.1,←HW.out.2]
 clear HW
 by_cases h1:nv<0
 ·have e1:(nv<0)=True:=eq_true h1
  have HE:=ZH (show FE=2 by rw[HFE.out,if_pos (.inl h1)])
  clear h1
  go_wp2_with fail
  go_ret
  exact ⟨by first | (rw[HE.out]; done) | (rw[HE.out]; rfl),HAL.out⟩
 have e1:(nv<0)=False:=eq_false h1
 by_cases h2:64<nv
 ·have e2:(64<nv)=True:=eq_true h2
  have HE:=ZH (show FE=2 by rw[HFE.out,if_pos (.inr h2)])
  clear h1 h2
  go_wp2_with fail
  go_ret
  exact ⟨by first | (rw[HE.out]; done) | (rw[HE.out]; rfl),HAL.out⟩
 have e2:(64<nv)=False:=eq_false h2
 have HFE2:=ZH (show FE=if E0≠0 then E0 else if 64<n then 6 else fstErr (stepErr nv L) n by rw[HFE.out,if_neg (by omega)])
 clear h1 h2 HFE
 go_wp2_with fail
 refine HNUM.out.mono ?_
 rintro e w2 ⟨rfl,hb1⟩
 have HB2:=ZH hb1
 clear hb1 s0 s1
 have hkf:=(HB2.out.block bf (ZL HK0.out)).trans HK0.out
 have s0:=ZI hkf 0
 have s1:=ZI hkf 1
 simp at s0 s1
 clear hkf
 by_cases h3:E0=0
 ·have e3:(E0 != 0)=false:=by rw[h3]; rfl
  have HFE3:=ZH (show FE=if 64<n then 6 else fstErr (stepErr nv L) n by rw[HFE2.out,if_neg (by simp[h3])])
  clear h3 HFE2
  by_cases h4:64<n
  ·have e4:((64:Int)<(n:Int))=True:=eq_true (by omega)
   have HE:=ZH (show FE=6 by rw[HFE3.out,if_pos h4])
   clear h4
   go_wp2_with fail
   go_ret
   exact ⟨by first | (rw[HE.out]; done) | (rw[HE.out]; rfl),HAL.out.trans (HB2.out.mono HAL.out.size)⟩
  have e4:((64:Int)<(n:Int))=False:=eq_false (by omega)
  have HFE4:=ZH (show FE=fstErr (stepErr nv L) n by rw[HFE3.out,if_neg h4])
  have hn64:n≤64:=by omega
  clear h4 HFE3
  go_wp2_with fail
  clear s0 s1
  go_loopg [6] n (fun gk x wr=>∃k:Nat,k+gk=n∧x=.int .i64 k∧Hid (fstErr (stepErr nv L) k=0)∧Hid (Below wa.heap.size wa wr))
  case atStart=>exact ⟨0,by omega,rfl,ZH rfl,HB2⟩
  case round=>
   obtain ⟨k,hk,rfl,hz0,hbw⟩:=hrel
   have hkf:=(hbw.out.block bf (ZL HK0.out)).trans HK0.out
   have s0:=ZI hkf 0
   have s1:=ZI hkf 1
   simp at s0 s1
   clear hkf
   by_cases hlt:k<n
   ·have e5:((k:Int)<(n:Int))=True:=eq_true (by omega)
    obtain ⟨g,o,rfl,-,hcc⟩:=HTC.out (by have:=HN.out; omega)
    have hx:=hcc k (by have:=HN.out; omega)
    have hkL:k<L.length:=by have:=HN.out; omega
    have hsz:=HT.out (L.getD k (0,[])) (by rw[List.getD_eq_getElem?_getD,List.getElem?_eq_getElem hkL]; exact List.getElem_mem hkL)
    have hbw0:=HAL.out.trans (hbw.out.mono HAL.out.size)
    obtain ⟨tp,htp⟩:∃x,x=(L.getD (k-1) (0,[])).1:=⟨_,rfl⟩
    have hpx:0<k→wa.cell? ⟨g,o+(k-1)*2,none⟩=some (.int .i64 tp):=fun h0=>by
     rw[htp]
     exact ZJ HAL.out (hcc (k-1) (by have:=HN.out; omega)).1
    have hse:stepErr nv L k=if (L.getD k (0,[])).1<0∨nv≤(L.getD k (0,[])).1 then 2 else if 0<k∧(L.getD k (0,[])).1≤tp then 8
     else if readErr (L.getD k (0,[])).2 400≠0 then readErr (L.getD k (0,[])).2 400 else if readVal (L.getD k (0,[])).2=0 then 19 else 0:=by rw[htp]; rfl
    obtain ⟨⟨ti,tl⟩,htt⟩:∃x,x=L.getD k (0,[]):=⟨_,rfl⟩
    rw[←htt] at hx hsz hse
    simp only[] at hx hsz hse
    obtain ⟨E5,hE5⟩:∃x,x=readErr tl 400:=⟨_,rfl⟩
    rw[←hE5] at hse
    obtain ⟨tt,htx⟩:∃s:ByteArray,s=⟨tl.toArray⟩:=⟨_,rfl⟩
    rw[←htx] at hx
    have x0:=ZJ hbw0 hx.1
    have x1:=ZJ hbw0 hx.2
    have hnum:=fun (W:World) (hgW:Glob W)=>pcheckNumber_any tt (by
     have h1:tt.size=tl.length:=by rw[htx]; simp[ByteArray.size]
     omega) hgW
    simp only[show tt.data.toList=tl by rw[htx],←hE5] at hnum
    have hrat:=fun (W:World) (hgW:Glob W) (h0:E5=0)=>prat_any tt (by
     have h1:tt.size=tl.length:=by rw[htx]; simp[ByteArray.size]
     omega) hgW (by rw[show tt.data.toList=tl by rw[htx],←hE5]; exact h0)
    simp only[show tt.data.toList=tl by rw[htx]] at hrat
    have HRAT:=ZH hrat
    have hfe:stepErr nv L k≠0→FE=stepErr nv L k:=fun h=>by rw[HFE4.out]; exact fstErr_lt hlt hz0.out h
    have hnx:stepErr nv L k=0→fstErr (stepErr nv L) (k+1)=0:=fun h=>fstErr_next hz0.out h
    have HNUM2:=ZH hnum
    have HPX:=ZH hpx
    have HLT:=ZH hlt
    have HSE:=ZH (ZN hse (ZN hfe hnx))
    have hk0:(0:Int)≤(k:Int):=by omega
    have hk1:(k:Int)<(n:Int):=by omega
    clear hcc hx hbw0 htp hpx htt htx hnum hrat hlt hz0 hE5 hfe hnx hse hkL hsz
    go_upto_region 12 with fail
    clear s0 s1
    obtain ⟨w3,hw3⟩:∃x,x=wr.alloc (.cells #[.int .i64 ti,.string tt] 85):=⟨_,rfl⟩
    obtain ⟨bt,hbt⟩:∃b,b=wr.heap.size:=⟨_,rfl⟩
    rw[←hw3,←hbt]
    have hl3:Below wr.heap.size wr w3:=by rw[hw3]; exact (ZR _ wr).alloc (Nat.le_refl _) _
    have kt:w3.heap[bt]?=some (.cells #[.int .i64 ti,.string tt] 85 (0,0)):=by rw[hw3,hbt]; exact ZW wr _
    have HKT:=ZH kt
    have HB3:=ZH (hbw.out.trans (hl3.mono hbw.out.size))
    have y0:=ZI kt 0
    have y1:=ZI kt 1
    have kf:=(HB3.out.block bf (ZL HK0.out)).trans HK0.out
    have s0:=ZI kf 0
    have s1:=ZI kf 1
    simp at y0 y1 s0 s1
    clear hw3 hbt hl3 kt kf x0 x1 hbw
    by_cases h5:ti<0
    ·have e6:(ti<0)=True:=eq_true h5
     have HE:=ZH (show FE=2 by
      have h:=HSE.out.1
      rw[if_pos (.inl h5)] at h
      rw[HSE.out.2.1 (by rw[h]; decide),h])
     clear h5
     go_wp2_with fail
     go_ret
     exact ⟨by first | (rw[HE.out]; done) | (rw[HE.out]; rfl),HAL.out.trans (HB3.out.mono HAL.out.size)⟩
    have e6:(ti<0)=False:=eq_false h5
    by_cases h6:nv≤ti
    ·have e7:(nv≤ti)=True:=eq_true h6
     have HE:=ZH (show FE=2 by
      have h:=HSE.out.1
      rw[if_pos (.inr h6)] at h
      rw[HSE.out.2.1 (by rw[h]; decide),h])
     clear h5 h6
     go_wp2_with fail
     go_ret
     exact ⟨by first | (rw[HE.out]; done) | (rw[HE.out]; rfl),HAL.out.trans (HB3.out.mono HAL.out.size)⟩
    have e7:(nv≤ti)=False:=eq_false h6
    have HS2:=ZH (show stepErr nv L k=if 0<k∧ti≤tp then 8 else if E5≠0 then E5 else if readVal tl=0 then 19 else 0 by
     have h:=HSE.out.1
     rw[if_neg (by omega)] at h
     exact h)
    clear h5 h6
    go_upto_region 14 with fail
    rcases Nat.eq_zero_or_pos k with hkz | hkz
    ·have e8:((0:Int)<(k:Int))=False:=eq_false (by omega)
     have hs3:stepErr nv L k=if E5≠0 then E5 else if readVal tl=0 then 19 else 0:=by rw[HS2.out,if_neg (by omega)]
     have HST:=ZH (show E5=0→(readVal tl=0→FE=19)∧(readVal tl≠0→Hid (fstErr (stepErr nv L) (k+1)=0)) from fun h=>by
      rw[if_neg (by simp[h])] at hs3
      refine ⟨fun hz=>?_,fun hz=>?_⟩
      ·rw[if_pos hz] at hs3
       rw[HSE.out.2.1 (by rw[hs3]; decide),hs3]
      ·rw[if_neg hz] at hs3
       exact ZH (HSE.out.2.2 hs3))
     have HSN:=ZH (show E5≠0→FE=E5 from fun h=>by
      rw[if_pos h] at hs3
      rw[HSE.out.2.1 (by rw[hs3]; exact h),hs3])
     clear hs3
     go_quiet (fail)
     obtain ⟨w4,hw4⟩:∃x,x=w3.drewN nq:=⟨_,rfl⟩
     rw[←hw4]
     have hb34:Below w3.heap.size w3 w4:=by rw[hw4]; exact below_drawn w3 nq
     have HB4:=ZH (HB3.out.trans (hb34.mono HB3.out.size))
     have HB35:=ZH hb34
     have kt:=(hb34.block bt (ZL HKT.out)).trans HKT.out
     have y0:=ZI kt 0
     have y1:=ZI kt 1
     simp at y0 y1
     clear hw4 hb34 kt s0 s1
     go_wp2_with fail
     refine (HNUM2.out w4 (HG.out.below HB4.out)).mono ?_
     rintro e w5 ⟨rfl,hb5⟩
     have HB5:=ZH (HB4.out.trans (hb5.mono HB4.out.size))
     have hb35:=HB35.out.trans (hb5.mono HB35.out.size)
     have kt:=(hb35.block bt (ZL HKT.out)).trans HKT.out
     clear y0 y1
     have y0:=ZI kt 0
     have y1:=ZI kt 1
     simp at y0 y1
     clear hb5 hb35 kt
     by_cases hE5:E5=0
     ·have e10:(E5 != 0)=false:=by rw[hE5]; rfl
      have HRA:=ZH (HRAT.out w5 (HG.out.below HB5.out) hE5)
      have HSE:=ZH (HST.out hE5)
      clear hE5
      go_wp2_with fail
      refine HRA.out.mono ?_
      rintro e w6 ⟨v6,rfl,hv6,hb6⟩
      have HB6:=ZH (HB5.out.trans (hb6.mono HB5.out.size))
      have HR6:=ZH hv6
      clear hv6 hb6 y0 y1
      go_wp2_with fail
      refine (ratSign_any HR6.out).mono ?_
      rintro e w7 ⟨rfl,hb7⟩
      have HB7:=ZH (HB6.out.trans (hb7.mono HB6.out.size))
      obtain ⟨sg,hsg⟩:∃x,x=cmpI (readVal tl).num 0:=⟨_,rfl⟩
      rw[←hsg]
      clear hb7
      by_cases hz:(readVal tl).num=0
      ·have hs0:(sg==0)=true:=by rw[hsg,hz]; rfl
       have HER:=ZH (HSE.out.1 (Rat.num_eq_zero.1 hz))
       clear hsg hz
       go_wp2_with fail
       go_ret
       exact ⟨by first | (rw[HER.out]; done) | (rw[HER.out]; rfl),HAL.out.trans (HB7.out.mono HAL.out.size)⟩
      ·have hs0:(sg==0)=false:=by
        rw[ZQ,hsg]
        unfold cmpI
        split
        ·decide
        ·split
         ·decide
         ·omega
       have HNX:=ZH (HSE.out.2 (fun h=>hz (by rw[h]; rfl)))
       clear hsg hz
       go_wp2_with fail
       go_roundg (n-(k+1))
       case measure=>have:=HLT.out; omega
       case rel=>exact ⟨k+1,by have:=HLT.out; omega,by first | (congr 1; done) | (subst hkz; rfl) | (congr 1; exact IntWalk.wrap64_in ((k:Int)+1) (by have:=HLT.out; omega)),HNX,HB7⟩
     ·have e10:(E5 != 0)=true:=by simp[hE5]
      have HER:=ZH (HSN.out hE5)
      clear hE5
      go_wp2_with fail
      go_ret
      exact ⟨by first | (rw[HER.out]; done) | (rw[HER.out]; rfl),HAL.out.trans (HB5.out.mono HAL.out.size)⟩
    ·have e8:((0:Int)<(k:Int))=True:=eq_true (by omega)
     obtain ⟨m,hm⟩:∃m,m=k-1:=⟨_,rfl⟩
     have hpx:=HPX.out hkz
     rw[←hm] at hpx
     have x2:=ZJ HB3.out hpx
     have e9:wrap64 ((k:Int)-1)=(m:Int):=by rw[show (k:Int)-1=(m:Int) by omega]; exact IntWalk.wrap64_in _ (by omega)
     have e9':IntKind.i64.wrap ((k:Int)-1)=(m:Int):=by rw[show (k:Int)-1=(m:Int) by omega]; exact IntWalk.i64_in _ (by omega)
     have hm0:(0:Int)≤(m:Int):=by omega
     have hm1:(m:Int)<(n:Int):=by omega
     clear hpx hm
     by_cases h7:ti≤tp
     ·have e11:(ti≤tp)=True:=eq_true h7
      have HE:=ZH (show FE=8 by
       have h:=HS2.out
       rw[if_pos ⟨hkz,h7⟩] at h
       rw[HSE.out.2.1 (by rw[h]; decide),h])
      clear h7
      go_quiet (fail)
      obtain ⟨w4,hw4⟩:∃x,x=w3.drewN nq:=⟨_,rfl⟩
      rw[←hw4]
      have hb34:Below w3.heap.size w3 w4:=by rw[hw4]; exact below_drawn w3 nq
      have HB4:=ZH (HB3.out.trans (hb34.mono HB3.out.size))
      clear hw4 hb34
      go_wp2_with fail
      go_ret
      exact ⟨by first | (rw[HE.out]; done) | (rw[HE.out]; rfl),HAL.out.trans (HB4.out.mono HAL.out.size)⟩
     have e11:(ti≤tp)=False:=eq_false h7
     have hs3:stepErr nv L k=if E5≠0 then E5 else if readVal tl=0 then 19 else 0:=by rw[HS2.out,if_neg (by omega)]
     have HST:=ZH (show E5=0→(readVal tl=0→FE=19)∧(readVal tl≠0→Hid (fstErr (stepErr nv L) (k+1)=0)) from fun h=>by
      rw[if_neg (by simp[h])] at hs3
      refine ⟨fun hz=>?_,fun hz=>?_⟩
      ·rw[if_pos hz] at hs3
       rw[HSE.out.2.1 (by rw[hs3]; decide),hs3]
      ·rw[if_neg hz] at hs3
       exact ZH (HSE.out.2.2 hs3))
     have HSN:=ZH (show E5≠0→FE=E5 from fun h=>by
      rw[if_pos h] at hs3
      rw[HSE.out.2.1 (by rw[hs3]; exact h),hs3])
     clear hs3 h7
     go_quiet (fail)
     obtain ⟨w4,hw4⟩:∃x,x=w3.drewN nq:=⟨_,rfl⟩
     rw[←hw4]
     have hb34:Below w3.heap.size w3 w4:=by rw[hw4]; exact below_drawn w3 nq
     have HB4:=ZH (HB3.out.trans (hb34.mono HB3.out.size))
     have HB35:=ZH hb34
     have kt:=(hb34.block bt (ZL HKT.out)).trans HKT.out
     have y0:=ZI kt 0
     have y1:=ZI kt 1
     simp at y0 y1
     clear hw4 hb34 kt s0 s1
     go_wp2_with fail
     refine (HNUM2.out w4 (HG.out.below HB4.out)).mono ?_
     rintro e w5 ⟨rfl,hb5⟩
     have HB5:=ZH (HB4.out.trans (hb5.mono HB4.out.size))
     have hb35:=HB35.out.trans (hb5.mono HB35.out.size)
     have kt:=(hb35.block bt (ZL HKT.out)).trans HKT.out
     clear y0 y1
     have y0:=ZI kt 0
     have y1:=ZI kt 1
     simp at y0 y1
     clear hb5 hb35 kt
     by_cases hE5:E5=0
     ·have e10:(E5 != 0)=false:=by rw[hE5]; rfl
      have HRA:=ZH (HRAT.out w5 (HG.out.below HB5.out) hE5)
      have HSE:=ZH (HST.out hE5)
      clear hE5
      go_wp2_with fail
      refine HRA.out.mono ?_
      rintro e w6 ⟨v6,rfl,hv6,hb6⟩
      have HB6:=ZH (HB5.out.trans (hb6.mono HB5.out.size))
      have HR6:=ZH hv6
      clear hv6 hb6 y0 y1
      go_wp2_with fail
      refine (ratSign_any HR6.out).mono ?_
      rintro e w7 ⟨rfl,hb7⟩
      have HB7:=ZH (HB6.out.trans (hb7.mono HB6.out.size))
      obtain ⟨sg,hsg⟩:∃x,x=cmpI (readVal tl).num 0:=⟨_,rfl⟩
      rw[←hsg]
      clear hb7
      by_cases hz:(readVal tl).num=0
      ·have hs0:(sg==0)=true:=by rw[hsg,hz]; rfl
       have HER:=ZH (HSE.out.1 (Rat.num_eq_zero.1 hz))
       clear hsg hz
       go_wp2_with fail
       go_ret
       exact ⟨by first | (rw[HER.out]; done) | (rw[HER.out]; rfl),HAL.out.trans (HB7.out.mono HAL.out.size)⟩
      ·have hs0:(sg==0)=false:=by
        rw[ZQ,hsg]
        unfold cmpI
        split
        ·decide
        ·split
         ·decide
         ·omega
       have HNX:=ZH (HSE.out.2 (fun h=>hz (by rw[h]; rfl)))
       clear hsg hz
       go_wp2_with fail
       go_roundg (n-(k+1))
       case measure=>have:=HLT.out; omega
       case rel=>exact ⟨k+1,by have:=HLT.out; omega,by first | (congr 1; done) | (subst hkz; rfl) | (congr 1; exact IntWalk.wrap64_in ((k:Int)+1) (by have:=HLT.out; omega)),HNX,HB7⟩
     ·have e10:(E5 != 0)=true:=by simp[hE5]
      have HER:=ZH (HSN.out hE5)
      clear hE5
      go_wp2_with fail
      go_ret
      exact ⟨by first | (rw[HER.out]; done) | (rw[HER.out]; rfl),HAL.out.trans (HB5.out.mono HAL.out.size)⟩
   ·have e5:((k:Int)<(n:Int))=False:=eq_false (by omega)
    obtain rfl:k=n:=by omega
    have HE:=ZH (show FE=0 by rw[HFE4.out]; exact hz0.out)
    go_wp2_with fail
    go_ret
    exact ⟨by first | (rw[HE.out]; done) | (rw[HE.out]; rfl),HAL.out.trans (hbw.out.mono HAL.out.size)⟩
 ·have e3:(E0 != 0)=true:=by simp[h3]
  have HE:=ZH (show FE=E0 by rw[HFE2.out,if_pos h3])
  clear h3
  go_wp2_with fail
  go_ret
  exact ⟨by first | (rw[HE.out]; done) | (rw[HE.out]; rfl),HAL.out.trans (HB2.out.mono HAL.out.size)⟩
end Go.Proofs.YtdcaaehapdhckaaGreatDoor
