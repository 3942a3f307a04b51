/- dimension.Add. -/
import Derived.Test.YtdcaaehapdhckaaGreatDoorKZ
import Derived.Test.YtdcaaehapdhckaaGreatDoorKE
import Derived.Test.YtdcaaehapdhckaaGreatDoorKW
set_option linter.unusedSimpArgs false
set_option linter.unusedVariables false
set_option maxRecDepth 100000
namespace Go.Proofs.YtdcaaehapdhckaaGreatDoor
open List renaming setIfInBounds_toArray → zLa, set_cons_zero → zLb, set_cons_succ → zLc
open FlowR renaming putSel → zFp
open Act renaming put → zAp
open Nat renaming zero_add → zNz
open Flow.Steps renaming cons → zSc, nil → zSn
open FlowR.Step renaming of → zSo
open Go.RowKit Go.Num Go.Flow Go.Maps Go.WideMaps
set_option maxHeartbeats 8000000
set_option linter.unusedVariables false

theorem TermsIn.stays {w w':World} {v:Value} {l:List (Nat×List UInt8)} (h:TermsIn w v l) (hs:Stays w w'):TermsIn w' v l:=by
 obtain ⟨ao,c,e,h1,h2,h3⟩:=h
 refine ⟨ao,c,e,h1,h2,fun h0=>?_⟩
 obtain ⟨g,o,e,hl,hc⟩:=h3 h0
 exact ⟨g,o,e,Nat.lt_of_lt_of_le hl hs.size,fun j hj=>⟨hs.cell (hc j hj).1,hs.cell (hc j hj).2⟩⟩
theorem FormIn.below {w w':World} {B:Nat} {v:Value} {c:List UInt8} {l:List (Nat×List UInt8)} (h:FormIn w B v c l) (hb:Below w.heap.size w w'):FormIn w' B v c l:=by
 obtain ⟨tv,e,ht⟩:=h
 exact ⟨tv,e,ht.below hb⟩
theorem addAll_take {T:List (Nat×List UInt8)} {k:Nat} (h:k<T.length) (m:Int→Option Rat):addAll (T.take (k+1)) m=addTo (addAll (T.take k) m) ((T.getD k (0,[])).1:Int) (readVal (T.getD k (0,[])).2):=by
 unfold addAll
 rw[List.take_succ_eq_append_getElem h,List.foldl_append,List.getD_eq_getElem?_getD,List.getElem?_eq_getElem h]
 rfl
theorem scaleAll_take {T:List (Nat×List UInt8)} {k:Nat} (h:k<T.length) (r:Rat) (m:Int→Option Rat):scaleAll (T.take (k+1)) r m=setTo (scaleAll (T.take k) r m) ((T.getD k (0,[])).1:Int) (readVal (T.getD k (0,[])).2*r):=by
 unfold scaleAll
 rw[List.take_succ_eq_append_getElem h,List.foldl_append,List.getD_eq_getElem?_getD,List.getElem?_eq_getElem h]
 rfl
theorem addAll_keys {N:Nat}:∀{T:List (Nat×List UInt8)} {m:Int→Option Rat},(∀p,p∈T→p.1<N)→(∀i,(m i).isSome=true→0≤i∧i<(N:Int))→∀i,(addAll T m i).isSome=true→0≤i∧i<(N:Int)
 | [],_,_,hm,i,h=>hm i h
 | p::T,m,hT,hm,i,h=>addAll_keys (T:=T) (m:=addTo m (p.1:Int) (readVal p.2)) (fun q hq=>hT q (by simp[hq])) (fun j hj=>by
   unfold addTo at hj
   by_cases e:j=(p.1:Int)
   ·have:=hT p (by simp); omega
   ·rw[if_neg e] at hj; exact hm j hj) i h
theorem scaleAll_keys {N:Nat} {r:Rat}:∀{T:List (Nat×List UInt8)} {m:Int→Option Rat},(∀p,p∈T→p.1<N)→(∀i,(m i).isSome=true→0≤i∧i<(N:Int))→∀i,(scaleAll T r m i).isSome=true→0≤i∧i<(N:Int)
 | [],_,_,hm,i,h=>hm i h
 | p::T,m,hT,hm,i,h=>scaleAll_keys (T:=T) (m:=setTo m (p.1:Int) (readVal p.2*r)) (fun q hq=>hT q (by simp[hq])) (fun j hj=>by
   unfold setTo at hj
   by_cases e:j=(p.1:Int)
   ·have:=hT p (by simp); omega
   ·rw[if_neg e] at hj; exact hm j hj) i h
theorem noMap_keys (N:Nat):∀i,(noMap i).isSome=true→0≤i∧i<(N:Int):=fun i h=>by simp[noMap] at h
def fineTerm (N S:Nat) (p:Nat×List UInt8):Prop:=p.1<N∧p.2.length≤S∧readErr p.2 65536=0
theorem mAdd_any {w:World} (hg:Glob w) {vf vg:Value} {c d:List UInt8} {L M:List (Nat×List UInt8)} (hf:FormAt w vf c L) (hf2:FormAt w vg d M) (hL:L.length≤1000) (hM:M.length≤1000) {N S:Nat} (hN1:N≤1000000) (hS:S≤60000)
  (hc:c.length≤S) (hc0:readErr c 65536=0) (hd:d.length≤S) (hd0:readErr d 65536=0) (ht:∀p,p∈L++M→fineTerm N S p) (hb:2+(L.length+M.length+1)*(S+3)≤900000) :
  Calls Tryz.prog 20 #[vf,vg] w fun e w'=>∃v,e=.returned v∧FormIn w' w.heap.size v (numText (readVal c+readVal d)) (sumTerms (addAll (L++M) noMap) N)∧Below w.heap.size w w':=by
 obtain ⟨tv,rfl,hta⟩:=hf
 obtain ⟨tv2,rfl,hta2⟩:=hf2
 obtain ⟨af,cf,e1,hf1,hf2,-⟩:=id hta
 obtain ⟨ag,cg,e2,hg1,hg2,-⟩:=id hta2
 obtain ⟨nf,hnf⟩:∃n,n=L.length:=⟨_,rfl⟩
 obtain ⟨ng,hng⟩:∃n,n=M.length:=⟨_,rfl⟩
 rw[←hnf] at e1
 rw[←hng] at e2
 subst e1 e2
 obtain ⟨s,hs⟩:∃s:ByteArray,s=⟨c.toArray⟩:=⟨_,rfl⟩
 obtain ⟨s',hs'⟩:∃s:ByteArray,s=⟨d.toArray⟩:=⟨_,rfl⟩
 obtain ⟨wa,hwa⟩:∃wa,wa=((w.alloc (.cells #[.string s,.slice af nf cf] 27)).alloc (.cells #[.string s',.slice ag ng cg] 27)).alloc (.cells #[.string ⟨#[]⟩,.slice none 0 0] 27):=⟨_,rfl⟩
 obtain ⟨bf,hbf⟩:∃b,b=w.heap.size:=⟨_,rfl⟩
 obtain ⟨bg,hbg⟩:∃b,b=w.heap.size+1:=⟨_,rfl⟩
 obtain ⟨bc,hbc⟩:∃b,b=w.heap.size+1+1:=⟨_,rfl⟩
 have hal:Below w.heap.size w wa:=by rw[hwa]; exact (((ZR _ w).alloc (Nat.le_refl _) _).alloc (by simp) _).alloc (by simp; omega) _
 obtain ⟨k1,k2,k3⟩:=three_made w #[.string s,.slice af nf cf] #[.string s',.slice ag ng cg] #[.string ⟨#[]⟩,.slice none 0 0] 27 27 27
 rw[←hwa,←hbf] at k1
 rw[←hwa,←hbg] at k2
 rw[←hwa,←hbc] at k3
 have hcapf:nf≤cf∧cf≤9223372036854775807:=by rw[hnf]; exact ⟨hf1,hf2⟩
 have hcapg:ng≤cg∧cg≤9223372036854775807:=by rw[hng]; exact ⟨hg1,hg2⟩
 have hsz:s.data.toList=c∧s.size≤4294967280:=by
  have h1:s.size=c.length:=by rw[hs]; simp[ByteArray.size]
  exact ⟨by rw[hs],by omega⟩
 have hsz':s'.data.toList=d∧s'.size≤4294967280:=by
  have h1:s'.size=d.length:=by rw[hs']; simp[ByteArray.size]
  exact ⟨by rw[hs'],by omega⟩
 obtain ⟨T,hT⟩:∃T,T=L++M:=⟨_,rfl⟩
 obtain ⟨n,hn⟩:∃n,n=T.length:=⟨_,rfl⟩
 have hnn:n=L.length+M.length:=by rw[hn,hT,List.length_append]
 rw[←hT] at ht
 have HS1:=ZH hsz
 have HS2:=ZH hsz'
 have HG:=ZH (hg.below hal)
 have HTF:=ZH (hta.below hal)
 have HTG:=ZH (hta2.below hal)
 have HT:=ZH ht
 have HTT:=ZH hT
 have HN:=ZH (ZN hn (ZN hnn (ZN hL (ZN hM (ZN hb (ZN hN1 hS))))))
 have HC:=ZH (ZN hc (ZN hc0 (ZN hd hd0)))
 have HAL:=ZH hal
 have HK1:=ZH k1
 have HK2:=ZH k2
 have HK3:=ZH k3
 have HGbc:=ZH (show w.heap.size≤bc by omega)
 have HW:=ZH (ZN hwa (ZN hbf (ZN hbg hbc)))
 have hn2000:n≤2000:=by omega
 rw[←hs,←hs',←hT]
 clear hwa hbf hbg hbc hal k1 k2 k3 hg hta hta2 hT ht hn hnn hL hM hb hN1 hS hc hc0 hd hd0 hs hs' hsz hsz' hnf hng hf1 hf2 hg1 hg2
 have x1:=ZI HK1.out 1
 have x2:=ZI HK2.out 1
 simp at x1 x2
 have hmm:=@run_makeMap Tryz.prog
 go_enter Tryz.func20,Tryz.ntmps20
 go_upto_region 1 with fail
 rw[←HW.out.1,←HW.out.2.2.2,←HW.out.2.2.1,←HW.out.2.1]
 clear HW
 go_upto_region 2 with fail
 obtain ⟨wm,hwm⟩:∃x,x=wa.alloc (.map #[] 0):=⟨_,rfl⟩
 obtain ⟨bm,hbm⟩:∃b,b=wa.heap.size:=⟨_,rfl⟩
 rw[←hwm,←hbm]
 have hlm:Below wa.heap.size wa wm:=by rw[hwm]; exact (ZR _ wa).alloc (Nat.le_refl _) _
 have HRM:=ZH (show RMapIn wm bm 0 2 noMap by rw[hwm,hbm]; exact rmap_made wa 2)
 have HBM:=ZH (ZN hlm (show wa.heap.size≤bm by omega))
 clear hwm hbm
 have x1:=ZI ((HBM.out.1.block bf (ZL HK1.out)).trans HK1.out) 1
 have x2:=ZI ((HBM.out.1.block bg (ZL HK2.out)).trans HK2.out) 1
 simp at x1 x2
 go_wp2_with fail
 have hla:Below wm.heap.size wm (wm.alloc (.cells #[.slice af nf cf,.slice ag ng cg] 25)):=(ZR _ wm).alloc (Nat.le_refl _) _
 refine (concat_any (ZW wm _) ((HTF.out.below HBM.out.1).below hla) ((HTG.out.below HBM.out.1).below hla) (by have:=HN.out; omega) (by have:=HN.out; omega)).mono ?_
 rintro e w3 ⟨v3,rfl,hv3,hb3'⟩
 have ht3:TermsIn w3 v3 T:=by rw[HTT.out]; exact hv3.reads
 have hb3:Below wm.heap.size wm w3:=hla.trans (hb3'.mono hla.size)
 clear hv3 hb3' hla
 obtain ⟨ao,ca,e14,hT1,hT2,-⟩:=id ht3
 rw[←HN.out.1] at e14
 subst e14
 have hca:n≤ca∧ca≤9223372036854775807:=by rw[HN.out.1]; exact ⟨hT1,hT2⟩
 have HT3:=ZH ht3
 have HRM3:=ZH (HRM.out.below hb3)
 have HB3:=ZH (HBM.out.1.trans (hb3.mono HBM.out.1.size))
 clear ht3 hT1 hT2 hb3 x1 x2
 go_wp2_with fail
 go_loopg [16] n (fun gk x wr=>∃k:Nat,k+gk=n∧x=.int .i64 k∧Hid (RMapIn wr bm k (2+k*(S+3)) (addAll (T.take k) noMap))∧Hid (Stays w3 wr)∧Hid (Below wa.heap.size wa wr))
 case atStart=>exact ⟨0,by omega,rfl,ZH (by rw[Nat.zero_mul]; exact HRM3.out),ZH (Stays.refl _),HB3⟩
 case round=>
  obtain ⟨k,hk,rfl,hrm,hst,hbw⟩:=hrel
  by_cases hlt:k<n
  ·have e1:((k:Int)<(n:Int))=True:=eq_true (by omega)
   have hk0:(0:Int)≤(k:Int):=by omega
   have hk1:(k:Int)<(n:Int):=by omega
   obtain ⟨ao',ca',e15,-,-,hcc⟩:=HT3.out.stays hst.out
   have hkT:k<T.length:=by have:=HN.out.1; omega
   obtain ⟨g,o,rfl,-,hcc⟩:=hcc (by omega)
   obtain ⟨rfl,-,-⟩:ao=some ⟨g,o,none⟩∧True∧True:=by simp only[Value.slice.injEq] at e15; exact ⟨e15.1,trivial,trivial⟩
   have hx:=hcc k hkT
   have hft:=HT.out (T.getD k (0,[])) (by rw[List.getD_eq_getElem?_getD,List.getElem?_eq_getElem hkT]; exact List.getElem_mem hkT)
   have hat:=addAll_take hkT noMap
   obtain ⟨⟨ti,tl⟩,htt⟩:∃x,x=T.getD k (0,[]):=⟨_,rfl⟩
   rw[←htt] at hx hft hat
   unfold fineTerm at hft
   simp only[] at hx hft hat
   obtain ⟨tt,htx⟩:∃s:ByteArray,s=⟨tl.toArray⟩:=⟨_,rfl⟩
   rw[←htx] at hx
   obtain ⟨tq,htq⟩:∃x,x=readVal tl:=⟨_,rfl⟩
   rw[←htq] at hat
   obtain ⟨m,hm⟩:∃x,x=addAll (T.take k) noMap:=⟨_,rfl⟩
   rw[←hm] at hat hrm
   have hrd:=fun (W:World) (hgW:Glob W)=>mread_any tt (by
    have h1:tt.size=tl.length:=by rw[htx]; simp[ByteArray.size]
    have h2:=HN.out
    have h3:=hft.2.1
    omega) hgW (by rw[htx]; exact hft.2.2)
   rw[show tt.data.toList=tl by rw[htx],←htq] at hrd
   have y0:=hx.1
   have y1:=hx.2
   have HRDT:=ZH hrd
   have HAT:=ZH hat
   have HFT:=ZH (ZN hft.1 hft.2.1)
   have HLT:=ZH hlt
   obtain ⟨KK,hKK⟩:∃x,x=2+k*(S+3):=⟨_,rfl⟩
   have HKK:=ZH (show 2≤KK∧KK+(S+2)+1=2+(k+1)*(S+3)∧KK+(S+2)+1≤900000 by
    have h1:=HN.out.2.2.2.2.1
    have h2:(k+1+1)*(S+3)≤(L.length+M.length+1)*(S+3):=Nat.mul_le_mul_right _ (by have:=HN.out; omega)
    rw[Nat.add_mul,Nat.one_mul] at h2
    have h3:(k+1)*(S+3)=k*(S+3)+(S+3):=by rw[Nat.add_mul,Nat.one_mul]
    omega)
   rw[←hKK] at hrm
   have HRMK:=hrm
   clear hcc hx hft hat htt htx htq hrd hlt hKK hkT hrm hm e15
   go_upto_region 5 with fail
   obtain ⟨w4,hw4⟩:∃x,x=wr.alloc (.cells #[.int .i64 (ti:Int),.string tt] 85):=⟨_,rfl⟩
   obtain ⟨bt,hbt⟩:∃b,b=wr.heap.size:=⟨_,rfl⟩
   rw[←hw4,←hbt]
   have hl4:Below wr.heap.size wr w4:=by rw[hw4]; exact (ZR _ wr).alloc (Nat.le_refl _) _
   have kt:w4.heap[bt]?=some (.cells #[.int .i64 (ti:Int),.string tt] 85 (0,0)):=by rw[hw4,hbt]; exact ZW wr _
   have HKT:=ZH kt
   have HB4:=ZH (hbw.out.trans (hl4.mono hbw.out.size))
   have HST4:=ZH (hst.out.trans (Stays.of_below hl4))
   have HRM4:=ZH (HRMK.out.below hl4)
   have HW4:=ZH (ZR w4.heap.size w4)
   have HTI:=ZH (show (-9223372036854775808:Int)≤(ti:Int)∧(ti:Int)≤9223372036854775807 by have:=HFT.out.1; have:=HN.out; omega)
   clear hw4 hbt hl4 kt y0 y1 hbw hst HRMK
   refine FlowR.wp_region_sel (fun a b=>Below a.heap.size a b) (fun a=>ZR _ a) (fun _ _ _ h k=>h.trans (k.mono h.size)) [0,1,2,3,4,5,6,7,8,9,10] [false,false,false,false,false,false,false,false,false,false,false,false] [true,true,true,true,true,true,true,true,true,true,true,false] (fun i9 v w'=>match i9 with
    | 0=>v=.map (some bm)
    | 1=>v=.pointer (some ⟨bt,0,none⟩)
    | 2=>v=.int .i64 (ti:Int)
    | 3=>v=.map (some bm)
    | 4=>v=.pointer (some ⟨bt,0,none⟩)
    | 5=>v=.int .i64 (ti:Int)
    | 6=>RtIn w' v ((m (ti:Int)).getD 0) KK
    | 7=>v=.pointer (some ⟨bt,1,none⟩)
    | 8=>v=.string tt
    | 9=>RtIn w' v tq (S+2)
    | _=>RtIn w' v ((m (ti:Int)).getD 0+tq) (KK+(S+2)+1)) rfl rfl (by kernel_rfl) (by kernel_rfl) (by kernel_rfl) (by kernel_rfl) ?st ?steps ?fin
   case st=>
    intro i9 v u1 u2 h hb
    match i9 with
    | 0 | 1 | 2 | 3 | 4 | 5 | 7 | 8=>exact h
    | 6=>exact (show RtIn u1 v ((m (ti:Int)).getD 0) KK from h).below hb
    | 9=>exact (show RtIn u1 v tq (S+2) from h).below hb
    | 10 | _+11=>exact (show RtIn u1 v ((m (ti:Int)).getD 0+tq) (KK+(S+2)+1) from h).below hb
   case steps=>
    refine zSc (zSo rfl ?s0) (zSc (zSo rfl ?s1) (zSc (zSo rfl ?s2) (zSc (zSo rfl ?s3) (zSc (zSo rfl ?s4) (zSc (zSo rfl ?s5) (zSc (zSo rfl ?s6) (zSc (zSo rfl ?s7) (zSc (zSo rfl ?s8) (zSc (zSo rfl ?s9) (zSc (zSo rfl ?s10) zSn))))))))))
    case s0 | s1 | s3 | s4 | s7=>
     intro xs w' hb hT K9 hK9
     clear hT
     simp only[zFp,zAp,zLa,zLb,zLc,Nat.reduceAdd,zNz] at hK9⊢
     have hw:=Flow.hwD HW4.out hb
     go_simp
     exact hK9 _ _ (ZR _ _) rfl
    case s2=>
     intro xs w' hb hT K9 hK9
     have h1:(xs 1)=.pointer (some ⟨bt,0,none⟩):=hT 1 (by kernel_rfl)
     clear hT
     simp only[zFp,zAp,zLa,zLb,zLc,Nat.reduceAdd,zNz] at hK9⊢
     have hw:=Flow.hwD HW4.out hb
     have kb:=(hw.block bt (ZL HKT.out)).trans HKT.out
     have y0:=ZI kb 0
     clear kb
     simp at y0
     (try simp only[h1] at hK9)
     go_simp
     exact hK9 _ _ (ZR _ _) rfl
    case s5=>
     intro xs w' hb hT K9 hK9
     have h4:(xs 4)=.pointer (some ⟨bt,0,none⟩):=hT 4 (by kernel_rfl)
     clear hT
     simp only[zFp,zAp,zLa,zLb,zLc,Nat.reduceAdd,zNz] at hK9⊢
     have hw:=Flow.hwD HW4.out hb
     have kb:=(hw.block bt (ZL HKT.out)).trans HKT.out
     have y0:=ZI kb 0
     clear kb
     simp at y0
     (try simp only[h4] at hK9)
     go_simp
     exact hK9 _ _ (ZR _ _) rfl
    case s6=>
     intro xs w' hb hT K9 hK9
     have h3:(xs 3)=.map (some bm):=hT 3 (by kernel_rfl)
     have h5:(xs 5)=.int .i64 (ti:Int):=hT 5 (by kernel_rfl)
     clear hT
     simp only[zFp,zAp,zLa,zLb,zLc,Nat.reduceAdd,zNz] at hK9⊢
     have hw:=Flow.hwD HW4.out hb
     (try simp only[h3] at hK9)
     (try simp only[h5] at hK9)
     obtain ⟨u,hrun,hu⟩:=(HRM4.out.below hw).look HTI.out.1 HTI.out.2
     go_simp
     exact hK9 _ _ (ZR _ _) hu
    case s8=>
     intro xs w' hb hT K9 hK9
     have h7:(xs 7)=.pointer (some ⟨bt,1,none⟩):=hT 7 (by kernel_rfl)
     clear hT
     simp only[zFp,zAp,zLa,zLb,zLc,Nat.reduceAdd,zNz] at hK9⊢
     have hw:=Flow.hwD HW4.out hb
     have kb:=(hw.block bt (ZL HKT.out)).trans HKT.out
     have y0:=ZI kb 1
     clear kb
     simp at y0
     (try simp only[h7] at hK9)
     go_simp
     exact hK9 _ _ (ZR _ _) rfl
    case s9=>
     intro xs w' hb hT K9 hK9
     have h8:(xs 8)=.string tt:=hT 8 (by kernel_rfl)
     clear hT
     simp only[zFp,zAp,zLa,zLb,zLc,Nat.reduceAdd,zNz] at hK9⊢
     have hw:=Flow.hwD HW4.out hb
     (try simp only[h8] at hK9)
     go_simp
     go_at_call 40
     refine (HRDT.out w' (HG.out.below (HB4.out.trans (hw.mono HB4.out.size)))).mono ?_
     rintro e w3 ⟨v3,rfl,hi3,hb3⟩
     exact hK9 _ _ hb3 (hi3.more (by have:=HFT.out.2; omega))
    case s10=>
     intro xs w' hb hT K9 hK9
     have h6:RtIn w' (xs 6) ((m (ti:Int)).getD 0) KK:=hT 6 (by kernel_rfl)
     have h9:RtIn w' (xs 9) tq (S+2):=hT 9 (by kernel_rfl)
     clear hT
     simp only[zFp,zAp,zLa,zLb,zLc,Nat.reduceAdd,zNz] at hK9⊢
     have hw:=Flow.hwD HW4.out hb
     go_simp
     go_at_call 59
     refine (ratAdd_any h6 h9 HKK.out.1 (by omega) HKK.out.2.2).mono ?_
     rintro e w3 ⟨v3,rfl,hi3,hb3⟩
     exact hK9 _ _ hb3 hi3
   case fin=>
    intro xs w' hb hT
    have hw:=Flow.hwD HW4.out hb
    have h0:(xs 0)=.map (some bm):=hT 0 (by rfl)
    have h2:(xs 2)=.int .i64 (ti:Int):=hT 2 (by rfl)
    have h10:RtIn w' (xs 10) ((m (ti:Int)).getD 0+tq) (KK+(S+2)+1):=hT 10 (by rfl)
    clear hT
    simp only[zFp,zAp,zLa,zLb,zLc,Nat.reduceAdd,zNz,FlowR.restL,FlowR.orM,Bool.false_or]
    simp only[h0,h2]
    clear h0 h2
    have hm9:=(HRM4.out.below hw).more (show KK≤2+(k+1)*(S+3) by have:=HKK.out; omega)
    obtain ⟨w5,hrun,hm5,hg5,hs5⟩:=hm9.store (by have:=HN.out; unfold maxLen; omega) HTI.out.1 HTI.out.2 (h10.more (show KK+(S+2)+1≤2+(k+1)*(S+3) by have:=HKK.out; omega))
    have hbn:=(HB4.out.trans (hw.mono HB4.out.size)).grown hg5 (by have h1:=HB4.out.size; have h2:=hw.size; omega) (fun q e=>by cases e; exact HBM.out.2)
    have HF:=ZH (ZN hm5 (ZN hbn ((HST4.out.trans (Stays.of_below hw)).trans hs5)))
    clear h10 hm9 hm5 hg5 hs5 hbn hw hb
    go_wp2_with fail
    go_roundg (n-(k+1))
    case measure=>have:=HLT.out; omega
    case rel=>exact ⟨k+1,by have:=HLT.out; omega,by congr 1,ZH (by rw[HAT.out]; exact HF.out.1),ZH HF.out.2.2,ZH HF.out.2.1⟩
  ·have e1:((k:Int)<(n:Int))=False:=eq_false (by omega)
   obtain rfl:k=n:=by omega
   have HRMN:=ZH (show RMapIn wr bm k (2+k*(S+3)) (addAll T noMap) by
    have h:=hrm.out
    rw[List.take_of_length_le (by have:=HN.out.1; omega)] at h
    exact h)
   have HKN:=ZH (show 2+k*(S+3)≤900000 by
    have h1:=HN.out.2.2.2.2.1
    have h2:k*(S+3)≤(L.length+M.length+1)*(S+3):=Nat.mul_le_mul_right _ (by have:=HN.out; omega)
    omega)
   have HKEYS:=ZH (addAll_keys (T:=T) (N:=N) (m:=noMap) (fun p hp=>(HT.out p hp).1) (noMap_keys N))
   have HBW:=hbw
   have HWR:=ZH (ZR wr.heap.size wr)
   have HK1r:=ZH ((hbw.out.block bf (ZL HK1.out)).trans HK1.out)
   have HK2r:=ZH ((hbw.out.block bg (ZL HK2.out)).trans HK2.out)
   have HGR:=ZH (HG.out.below hbw.out)
   obtain ⟨SM,hSM⟩:∃x,x=sumTerms (addAll T noMap) N:=⟨_,rfl⟩
   have HSM:=ZH hSM
   obtain ⟨CT,hCT⟩:∃x,x=numText (readVal c+readVal d):=⟨_,rfl⟩
   have HCT:=ZH hCT
   clear hrm hst hbw hSM hCT
   go_upto_region 7 with fail
   refine FlowR.wp_region_sel (fun a b=>Below a.heap.size a b) (fun a=>ZR _ a) (fun _ _ _ h k=>h.trans (k.mono h.size)) [0,1,2,3,4,5,6,7,8] [false,false,false,false,false,false,false,false,false,false] [true,true,true,true,true,true,true,true,true,false] (fun i9 v w'=>match i9 with
    | 0=>v=.pointer (some ⟨bf,0,none⟩)
    | 1=>v=.string s
    | 2=>RtIn w' v (readVal c) (S+2)
    | 3=>v=.pointer (some ⟨bg,0,none⟩)
    | 4=>v=.string s'
    | 5=>RtIn w' v (readVal d) (S+2)
    | 6=>RtIn w' v (readVal c+readVal d) (S+2+(S+2)+1)
    | 7=>v=.map (some bm)
    | _=>FormIn w' wa.heap.size v CT SM) rfl rfl (by kernel_rfl) (by kernel_rfl) (by kernel_rfl) (by kernel_rfl) ?st ?steps ?fin
   case st=>
    intro i9 v u1 u2 h hb
    match i9 with
    | 0 | 1 | 3 | 4 | 7=>exact h
    | 2=>exact (show RtIn u1 v (readVal c) (S+2) from h).below hb
    | 5=>exact (show RtIn u1 v (readVal d) (S+2) from h).below hb
    | 6=>exact (show RtIn u1 v (readVal c+readVal d) (S+2+(S+2)+1) from h).below hb
    | 8 | _+9=>exact (show FormIn u1 wa.heap.size v CT SM from h).below hb
   case steps=>
    refine zSc (zSo rfl ?s0) (zSc (zSo rfl ?s1) (zSc (zSo rfl ?s2) (zSc (zSo rfl ?s3) (zSc (zSo rfl ?s4) (zSc (zSo rfl ?s5) (zSc (zSo rfl ?s6) (zSc (zSo rfl ?s7) (zSc (zSo rfl ?s8) zSn))))))))
    case s0 | s3 | s7=>
     intro xs w' hb hT K9 hK9
     clear hT
     simp only[zFp,zAp,zLa,zLb,zLc,Nat.reduceAdd,zNz] at hK9⊢
     have hw:=Flow.hwD HWR.out hb
     go_simp
     exact hK9 _ _ (ZR _ _) rfl
    case s1=>
     intro xs w' hb hT K9 hK9
     have h0:(xs 0)=.pointer (some ⟨bf,0,none⟩):=hT 0 (by kernel_rfl)
     clear hT
     simp only[zFp,zAp,zLa,zLb,zLc,Nat.reduceAdd,zNz] at hK9⊢
     have hw:=Flow.hwD HWR.out hb
     have kb:=(hw.block bf (ZL HK1r.out)).trans HK1r.out
     have y0:=ZI kb 0
     clear kb
     simp at y0
     (try simp only[h0] at hK9)
     go_simp
     exact hK9 _ _ (ZR _ _) rfl
    case s2=>
     intro xs w' hb hT K9 hK9
     have h1:(xs 1)=.string s:=hT 1 (by kernel_rfl)
     clear hT
     simp only[zFp,zAp,zLa,zLb,zLc,Nat.reduceAdd,zNz] at hK9⊢
     have hw:=Flow.hwD HWR.out hb
     (try simp only[h1] at hK9)
     go_simp
     go_at_call 40
     refine ((show Calls Tryz.prog 40 #[.string s] w' _ from mread_any s HS1.out.2 (HGR.out.below hw) (by rw[HS1.out.1]; exact HC.out.2.1))).mono ?_
     rintro e w3 ⟨v3,rfl,hi3,hb3⟩
     exact hK9 _ _ hb3 (by rw[HS1.out.1] at hi3; exact hi3.more (by have:=HC.out.1; omega))
    case s4=>
     intro xs w' hb hT K9 hK9
     have h3:(xs 3)=.pointer (some ⟨bg,0,none⟩):=hT 3 (by kernel_rfl)
     clear hT
     simp only[zFp,zAp,zLa,zLb,zLc,Nat.reduceAdd,zNz] at hK9⊢
     have hw:=Flow.hwD HWR.out hb
     have kb:=(hw.block bg (ZL HK2r.out)).trans HK2r.out
     have y0:=ZI kb 0
     clear kb
     simp at y0
     (try simp only[h3] at hK9)
     go_simp
     exact hK9 _ _ (ZR _ _) rfl
    case s5=>
     intro xs w' hb hT K9 hK9
     have h4:(xs 4)=.string s':=hT 4 (by kernel_rfl)
     clear hT
     simp only[zFp,zAp,zLa,zLb,zLc,Nat.reduceAdd,zNz] at hK9⊢
     have hw:=Flow.hwD HWR.out hb
     (try simp only[h4] at hK9)
     go_simp
     go_at_call 40
     refine ((show Calls Tryz.prog 40 #[.string s'] w' _ from mread_any s' HS2.out.2 (HGR.out.below hw) (by rw[HS2.out.1]; exact HC.out.2.2.2))).mono ?_
     rintro e w3 ⟨v3,rfl,hi3,hb3⟩
     exact hK9 _ _ hb3 (by rw[HS2.out.1] at hi3; exact hi3.more (by have:=HC.out.2.2.1; omega))
    case s6=>
     intro xs w' hb hT K9 hK9
     have h2:RtIn w' (xs 2) (readVal c) (S+2):=hT 2 (by kernel_rfl)
     have h5:RtIn w' (xs 5) (readVal d) (S+2):=hT 5 (by kernel_rfl)
     clear hT
     simp only[zFp,zAp,zLa,zLb,zLc,Nat.reduceAdd,zNz] at hK9⊢
     have hw:=Flow.hwD HWR.out hb
     go_simp
     go_at_call 59
     refine (ratAdd_any h2 h5 (by omega) (by omega) (by have:=HN.out; omega)).mono ?_
     rintro e w3 ⟨v3,rfl,hi3,hb3⟩
     exact hK9 _ _ hb3 hi3
    case s8=>
     intro xs w' hb hT K9 hK9
     have h6:RtIn w' (xs 6) (readVal c+readVal d) (S+2+(S+2)+1):=hT 6 (by kernel_rfl)
     have h7:(xs 7)=.map (some bm):=hT 7 (by kernel_rfl)
     clear hT
     simp only[zFp,zAp,zLa,zLb,zLc,Nat.reduceAdd,zNz] at hK9⊢
     have hw:=Flow.hwD HWR.out hb
     (try simp only[h7] at hK9)
     go_simp
     go_at_call 39
     refine (mForm_any (HGR.out.below hw) h6 (by have:=HN.out; omega) (HRMN.out.below hw) (by have:=HN.out; omega) HKN.out (by have:=HN.out; omega) HKEYS.out).mono ?_
     rintro e w3 ⟨v3,rfl,hi3,hb3⟩
     exact hK9 _ _ hb3 (by rw[HCT.out,HSM.out]; obtain ⟨tv3,e3,ht3⟩:=hi3; exact ⟨tv3,e3,World.ownsRow.mono ht3 (Nat.le_trans HBW.out.size hw.size)⟩)
   case fin=>
    intro xs w' hb hT
    have hw:=Flow.hwD HWR.out hb
    have h8:FormIn w' wa.heap.size (xs 8) CT SM:=hT 8 (by rfl)
    clear hT
    simp only[zFp,zAp,zLa,zLb,zLc,Nat.reduceAdd,zNz,FlowR.restL,FlowR.orM,Bool.false_or]
    obtain ⟨tv9,e9,ht9⟩:=h8
    obtain ⟨a9,n9,c9,rfl⟩:=ht9.shape
    simp only[e9]
    clear e9 hb
    have hkc:=(hw.block bc (ZL ((HBW.out.block bc (ZL HK3.out)).trans HK3.out))).trans ((HBW.out.block bc (ZL HK3.out)).trans HK3.out)
    have z0:=ZI hkc 0
    have z1:=ZI hkc 1
    have f0:=ZF hkc 0
    have f1:=ZF hkc 1
    simp at z0 z1
    obtain ⟨CS,hCS⟩:∃s:ByteArray,s=⟨CT.toArray⟩:=⟨_,rfl⟩
    rw[←hCS]
    have hr:=(ht9.set (ZL HK3.out) 0 (.string CS)).set (ZL HK3.out) 1 (.slice a9 n9 c9)
    have hbb:=((HAL.out.trans ((HBW.out.trans (hw.mono HBW.out.size)).mono HAL.out.size)).setCell (p:=⟨bc,0,none⟩) HGbc.out (.string CS)).setCell (p:=⟨bc,1,none⟩) HGbc.out (.slice a9 n9 c9)
    have HF:=ZH (ZN hr (ZN hbb hCS))
    clear ht9 hr hbb hkc hw hCS
    go_wp2_with fail
    refine bodyPost_ret (v:=.agg #[.string CS,.slice a9 n9 c9]) (by simp[results,Tryz.results20,go_sem,z0,z1]) rfl ⟨_,rfl,⟨_,by rw[HF.out.2.2,HCT.out],?_⟩,HF.out.2.1⟩
    rw[←HSM.out]
    exact World.ownsRow.mono HF.out.1 HAL.out.size
theorem mfactorsOf_any {w:World} (hg:Glob w) {vf:Value} {c:List UInt8} {L:List (Nat×List UInt8)} (hf:FormAt w vf c L) (hL:L.length≤2000) {N S:Nat} (hN1:N≤1000000) (hS:S≤60000) (ht:∀p,p∈L→fineTerm N S p) :
  Calls Tryz.prog 41 #[vf] w fun e w'=>∃bm,e=.returned (.map (some bm))∧w.heap.size≤bm∧RMapIn w' bm L.length (S+2) (scaleAll L 1 noMap)∧Below w.heap.size w w':=by
 obtain ⟨tv,rfl,hta⟩:=hf
 obtain ⟨af,cf,e1,hf1,hf2,-⟩:=id hta
 obtain ⟨n,hn⟩:∃n,n=L.length:=⟨_,rfl⟩
 rw[←hn] at e1
 subst e1
 obtain ⟨s,hs⟩:∃s:ByteArray,s=⟨c.toArray⟩:=⟨_,rfl⟩
 obtain ⟨wa,bf,hwa,hbf,hal,k1⟩:=new_box w #[.string s,.slice af n cf] 27
 have hca:n≤cf∧cf≤9223372036854775807:=by rw[hn]; exact ⟨hf1,hf2⟩
 have HG:=ZH (hg.below hal)
 have HTF:=ZH (hta.below hal)
 have HT:=ZH ht
 have HN:=ZH (ZN hn (ZN hL (ZN (show 0≤1 by omega) (ZN hN1 hS))))
 have HAL:=ZH hal
 have HK1:=ZH k1
 have HW:=ZH (ZN hwa hbf)
 have hn2000:n≤2000:=by omega
 rw[←hs]
 clear hwa hbf hal k1 hg hta ht hn hL hN1 hS hs hf1 hf2
 have hmm:=@run_makeMap Tryz.prog
 go_enter Tryz.func41,Tryz.ntmps41
 go_upto_region 1 with fail
 rw[←HW.out.1,←HW.out.2]
 clear HW
 go_upto_region 2 with fail
 obtain ⟨wm,hwm⟩:∃x,x=wa.alloc (.map #[] 0):=⟨_,rfl⟩
 obtain ⟨bm,hbm⟩:∃b,b=wa.heap.size:=⟨_,rfl⟩
 rw[←hwm,←hbm]
 have hlm:Below wa.heap.size wa wm:=by rw[hwm]; exact (ZR _ wa).alloc (Nat.le_refl _) _
 obtain ⟨KK,hKK⟩:∃x,x=S+2:=⟨_,rfl⟩
 have HKK:=ZH hKK
 have HRM:=ZH (show RMapIn wm bm 0 KK noMap by rw[hwm,hbm]; exact rmap_made wa KK)
 have HBM:=ZH (ZN hlm (show wa.heap.size≤bm by omega))
 have x1:=ZI ((hlm.block bf (ZL HK1.out)).trans HK1.out) 1
 simp at x1
 clear hwm hbm hlm hKK
 go_wp2_with fail
 clear x1
 go_loopg [10] n (fun gk x wr=>∃k:Nat,k+gk=n∧x=.int .i64 k∧Hid (RMapIn wr bm k KK (scaleAll (L.take k) 1 noMap))∧Hid (Stays wm wr)∧Hid (Below wa.heap.size wa wr))
 case atStart=>exact ⟨0,by omega,rfl,HRM,ZH (Stays.refl _),ZH HBM.out.1⟩
 case round=>
  obtain ⟨k,hk,rfl,hrm,hst,hbw⟩:=hrel
  by_cases hlt:k<n
  ·have e1:((k:Int)<(n:Int))=True:=eq_true (by omega)
   have hk0:(0:Int)≤(k:Int):=by omega
   have hk1:(k:Int)<(n:Int):=by omega
   obtain ⟨ao',ca',e15,-,-,hcc⟩:=HTF.out.below hbw.out
   have hkT:k<L.length:=by have:=HN.out.1; omega
   obtain ⟨g,o,rfl,-,hcc⟩:=hcc (by omega)
   obtain ⟨rfl,-,-⟩:af=some ⟨g,o,none⟩∧True∧True:=by simp only[Value.slice.injEq] at e15; exact ⟨e15.1,trivial,trivial⟩
   have hx:=hcc k hkT
   have hft:=HT.out (L.getD k (0,[])) (by rw[List.getD_eq_getElem?_getD,List.getElem?_eq_getElem hkT]; exact List.getElem_mem hkT)
   have hat:=scaleAll_take hkT 1 noMap
   obtain ⟨⟨ti,tl⟩,htt⟩:∃x,x=L.getD k (0,[]):=⟨_,rfl⟩
   rw[←htt] at hx hft hat
   unfold fineTerm at hft
   simp only[] at hx hft hat
   obtain ⟨tt,htx⟩:∃s:ByteArray,s=⟨tl.toArray⟩:=⟨_,rfl⟩
   rw[←htx] at hx
   obtain ⟨tq,htq⟩:∃x,x=readVal tl:=⟨_,rfl⟩
   rw[←htq,Rat.mul_one] at hat
   have hrd:=fun (W:World) (hgW:Glob W)=>mread_any tt (by
    have h1:tt.size=tl.length:=by rw[htx]; simp[ByteArray.size]
    have h2:=HN.out
    have h3:=hft.2.1
    omega) hgW (by rw[htx]; exact hft.2.2)
   rw[show tt.data.toList=tl by rw[htx],←htq] at hrd
   have y0:=hx.1
   have y1:=hx.2
   have HRDT:=ZH hrd
   have HAT:=ZH hat
   have HFT:=ZH (ZN hft.1 hft.2.1)
   have HLT:=ZH hlt
   have HRMK:=hrm
   clear hcc hx hft hat htt htx htq hrd hlt hkT hrm e15
   go_upto_region 5 with fail
   obtain ⟨w4,hw4⟩:∃x,x=wr.alloc (.cells #[.int .i64 (ti:Int),.string tt] 85):=⟨_,rfl⟩
   obtain ⟨bt,hbt⟩:∃b,b=wr.heap.size:=⟨_,rfl⟩
   rw[←hw4,←hbt]
   have hl4:Below wr.heap.size wr w4:=by rw[hw4]; exact (ZR _ wr).alloc (Nat.le_refl _) _
   have kt:w4.heap[bt]?=some (.cells #[.int .i64 (ti:Int),.string tt] 85 (0,0)):=by rw[hw4,hbt]; exact ZW wr _
   have HKT:=ZH kt
   have HB4:=ZH (hbw.out.trans (hl4.mono hbw.out.size))
   have HST4:=ZH (hst.out.trans (Stays.of_below hl4))
   have HRM4:=ZH (HRMK.out.below hl4)
   have HW4:=ZH (ZR w4.heap.size w4)
   have HTI:=ZH (show (-9223372036854775808:Int)≤(ti:Int)∧(ti:Int)≤9223372036854775807 by have:=HFT.out.1; have:=HN.out; omega)
   clear hw4 hbt hl4 kt y0 y1 hbw hst HRMK
   refine FlowR.wp_region_sel (fun a b=>Below a.heap.size a b) (fun a=>ZR _ a) (fun _ _ _ h k=>h.trans (k.mono h.size)) [0,1,2,3,4,5] [false,false,false,false,false,false,false] [true,true,true,true,true,true,false] (fun i9 v w'=>match i9 with
    | 0=>v=.map (some bm)
    | 1=>v=.pointer (some ⟨bt,0,none⟩)
    | 2=>v=.int .i64 (ti:Int)
    | 3=>v=.pointer (some ⟨bt,1,none⟩)
    | 4=>v=.string tt
    | _=>RtIn w' v tq (S+2)) rfl rfl (by kernel_rfl) (by kernel_rfl) (by kernel_rfl) (by kernel_rfl) ?st ?steps ?fin
   case st=>
    intro i9 v u1 u2 h hb
    match i9 with
    | 0 | 1 | 2 | 3 | 4=>exact h
    | 5 | _+6=>exact (show RtIn u1 v tq (S+2) from h).below hb
   case steps=>
    refine zSc (zSo rfl ?s0) (zSc (zSo rfl ?s1) (zSc (zSo rfl ?s2) (zSc (zSo rfl ?s3) (zSc (zSo rfl ?s4) (zSc (zSo rfl ?s5) zSn)))))
    case s0 | s1 | s3=>
     intro xs w' hb hT K9 hK9
     clear hT
     simp only[zFp,zAp,zLa,zLb,zLc,Nat.reduceAdd,zNz] at hK9⊢
     have hw:=Flow.hwD HW4.out hb
     go_simp
     exact hK9 _ _ (ZR _ _) rfl
    case s2=>
     intro xs w' hb hT K9 hK9
     have h1:(xs 1)=.pointer (some ⟨bt,0,none⟩):=hT 1 (by kernel_rfl)
     clear hT
     simp only[zFp,zAp,zLa,zLb,zLc,Nat.reduceAdd,zNz] at hK9⊢
     have hw:=Flow.hwD HW4.out hb
     have kb:=(hw.block bt (ZL HKT.out)).trans HKT.out
     have y0:=ZI kb 0
     clear kb
     simp at y0
     (try simp only[h1] at hK9)
     go_simp
     exact hK9 _ _ (ZR _ _) rfl
    case s4=>
     intro xs w' hb hT K9 hK9
     have h3:(xs 3)=.pointer (some ⟨bt,1,none⟩):=hT 3 (by kernel_rfl)
     clear hT
     simp only[zFp,zAp,zLa,zLb,zLc,Nat.reduceAdd,zNz] at hK9⊢
     have hw:=Flow.hwD HW4.out hb
     have kb:=(hw.block bt (ZL HKT.out)).trans HKT.out
     have y0:=ZI kb 1
     clear kb
     simp at y0
     (try simp only[h3] at hK9)
     go_simp
     exact hK9 _ _ (ZR _ _) rfl
    case s5=>
     intro xs w' hb hT K9 hK9
     have h4:(xs 4)=.string tt:=hT 4 (by kernel_rfl)
     clear hT
     simp only[zFp,zAp,zLa,zLb,zLc,Nat.reduceAdd,zNz] at hK9⊢
     have hw:=Flow.hwD HW4.out hb
     (try simp only[h4] at hK9)
     go_simp
     go_at_call 40
     refine (HRDT.out w' (HG.out.below (HB4.out.trans (hw.mono HB4.out.size)))).mono ?_
     rintro e w3 ⟨v3,rfl,hi3,hb3⟩
     exact hK9 _ _ hb3 (hi3.more (by have:=HFT.out.2; omega))
   case fin=>
    intro xs w' hb hT
    have hw:=Flow.hwD HW4.out hb
    have h0:(xs 0)=.map (some bm):=hT 0 (by rfl)
    have h2:(xs 2)=.int .i64 (ti:Int):=hT 2 (by rfl)
    have h5:RtIn w' (xs 5) tq (S+2):=hT 5 (by rfl)
    clear hT
    simp only[zFp,zAp,zLa,zLb,zLc,Nat.reduceAdd,zNz,FlowR.restL,FlowR.orM,Bool.false_or]
    simp only[h0,h2]
    clear h0 h2
    obtain ⟨w5,hrun,hm5,hg5,hs5⟩:=(HRM4.out.below hw).store (by have:=HN.out; unfold maxLen; omega) HTI.out.1 HTI.out.2 (h5.more (show S+2≤KK by have:=HKK.out; omega))
    have hbn:=(HB4.out.trans (hw.mono HB4.out.size)).grown hg5 (by have h1:=HB4.out.size; have h2:=hw.size; omega) (fun q e=>by cases e; exact HBM.out.2)
    have HF:=ZH (ZN hm5 (ZN hbn ((HST4.out.trans (Stays.of_below hw)).trans hs5)))
    clear h5 hm5 hg5 hs5 hbn hw hb
    go_wp2_with fail
    go_roundg (n-(k+1))
    case measure=>have:=HLT.out; omega
    case rel=>exact ⟨k+1,by have:=HLT.out; omega,by congr 1,ZH (by rw[HAT.out]; exact HF.out.1),ZH HF.out.2.2,ZH HF.out.2.1⟩
  ·have e1:((k:Int)<(n:Int))=False:=eq_false (by omega)
   obtain rfl:k=n:=by omega
   have HRMN:=ZH (show RMapIn wr bm k KK (scaleAll L 1 noMap) by
    have h:=hrm.out
    rw[List.take_of_length_le (by have:=HN.out.1; omega)] at h
    exact h)
   have HBE:=ZH (HAL.out.trans (hbw.out.mono HAL.out.size))
   clear hrm hst hbw
   go_wp2_with fail
   go_ret
   exact ⟨bm,rfl,Nat.le_trans HAL.out.size HBM.out.2,by rw[←HN.out.1,←HKK.out]; exact HRMN.out,HBE.out⟩
theorem mScale_any {w:World} (hg:Glob w) {vf vr:Value} {c:List UInt8} {L:List (Nat×List UInt8)} (hf:FormAt w vf c L) (hL:L.length≤2000) {r:Rat} {kr:Nat} (hr:RtIn w vr r kr) (hkr:2≤kr) {N S:Nat} (hN1:N≤1000000) (hS:S≤60000)
  (hc:c.length≤S) (hc0:readErr c 65536=0) (ht:∀p,p∈L→fineTerm N S p) (hb:S+2+kr≤900000) :
  Calls Tryz.prog 22 #[vf,vr] w fun e w'=>∃v,e=.returned v∧FormIn w' w.heap.size v (numText (readVal c*r)) (sumTerms (scaleAll L r noMap) N)∧Below w.heap.size w w':=by
 obtain ⟨tv,rfl,hta⟩:=hf
 obtain ⟨af,cf,e1,hf1,hf2,-⟩:=id hta
 obtain ⟨n,hn⟩:∃n,n=L.length:=⟨_,rfl⟩
 rw[←hn] at e1
 subst e1
 obtain ⟨s1,a1,c1,l1,s2,a2,c2,l2,rfl⟩:=rt_shape hr
 obtain ⟨s,hs⟩:∃s:ByteArray,s=⟨c.toArray⟩:=⟨_,rfl⟩
 obtain ⟨wa,hwa⟩:∃wa,wa=((w.alloc (.cells #[.string s,.slice af n cf] 27)).alloc (.cells #[.bool s1,.slice a1 c1 l1,.bool s2,.slice a2 c2 l2] 47)).alloc (.cells #[.string ⟨#[]⟩,.slice none 0 0] 27):=⟨_,rfl⟩
 obtain ⟨bf,hbf⟩:∃b,b=w.heap.size:=⟨_,rfl⟩
 obtain ⟨bg,hbg⟩:∃b,b=w.heap.size+1:=⟨_,rfl⟩
 obtain ⟨bc,hbc⟩:∃b,b=w.heap.size+1+1:=⟨_,rfl⟩
 have hal:Below w.heap.size w wa:=by rw[hwa]; exact (((ZR _ w).alloc (Nat.le_refl _) _).alloc (by simp) _).alloc (by simp; omega) _
 obtain ⟨k1,k2,k3⟩:=three_made w #[.string s,.slice af n cf] #[.bool s1,.slice a1 c1 l1,.bool s2,.slice a2 c2 l2] #[.string ⟨#[]⟩,.slice none 0 0] 27 47 27
 rw[←hwa,←hbf] at k1
 rw[←hwa,←hbg] at k2
 rw[←hwa,←hbc] at k3
 have hca:n≤cf∧cf≤9223372036854775807:=by rw[hn]; exact ⟨hf1,hf2⟩
 have hsz:s.data.toList=c∧s.size≤4294967280:=by
  have h1:s.size=c.length:=by rw[hs]; simp[ByteArray.size]
  exact ⟨by rw[hs],by omega⟩
 have HS1:=ZH hsz
 have HG:=ZH (hg.below hal)
 have HTF:=ZH (hta.below hal)
 have HR:=ZH (hr.below hal)
 have HT:=ZH ht
 have HN:=ZH (ZN hn (ZN hL (ZN hb (ZN hN1 (ZN hS hkr)))))
 have HC:=ZH (ZN hc hc0)
 have HAL:=ZH hal
 have HK1:=ZH k1
 have HK2:=ZH k2
 have HK3:=ZH k3
 have HGbc:=ZH (show w.heap.size≤bc by omega)
 have HW:=ZH (ZN hwa (ZN hbf (ZN hbg hbc)))
 have hn2000:n≤2000:=by omega
 rw[←hs]
 clear hwa hbf hbg hbc hal k1 k2 k3 hg hta hr ht hn hL hb hN1 hS hkr hc hc0 hs hsz hf1 hf2
 have hmm:=@run_makeMap Tryz.prog
 go_enter Tryz.func22,Tryz.ntmps22
 go_upto_region 1 with fail
 rw[←HW.out.1,←HW.out.2.2.2,←HW.out.2.2.1,←HW.out.2.1]
 clear HW
 go_upto_region 2 with fail
 obtain ⟨wm,hwm⟩:∃x,x=wa.alloc (.map #[] 0):=⟨_,rfl⟩
 obtain ⟨bm,hbm⟩:∃b,b=wa.heap.size:=⟨_,rfl⟩
 rw[←hwm,←hbm]
 have hlm:Below wa.heap.size wa wm:=by rw[hwm]; exact (ZR _ wa).alloc (Nat.le_refl _) _
 obtain ⟨KK,hKK⟩:∃x,x=S+2+kr:=⟨_,rfl⟩
 have HKK:=ZH hKK
 have HRM:=ZH (show RMapIn wm bm 0 KK noMap by rw[hwm,hbm]; exact rmap_made wa KK)
 have HBM:=ZH (ZN hlm (show wa.heap.size≤bm by omega))
 have x1:=ZI ((hlm.block bf (ZL HK1.out)).trans HK1.out) 1
 simp at x1
 clear hwm hbm hlm hKK
 go_wp2_with fail
 clear x1
 go_loopg [12] n (fun gk x wr=>∃k:Nat,k+gk=n∧x=.int .i64 k∧Hid (RMapIn wr bm k KK (scaleAll (L.take k) r noMap))∧Hid (Stays wm wr)∧Hid (Below wa.heap.size wa wr))
 case atStart=>exact ⟨0,by omega,rfl,HRM,ZH (Stays.refl _),ZH HBM.out.1⟩
 case round=>
  obtain ⟨k,hk,rfl,hrm,hst,hbw⟩:=hrel
  by_cases hlt:k<n
  ·have e1:((k:Int)<(n:Int))=True:=eq_true (by omega)
   have hk0:(0:Int)≤(k:Int):=by omega
   have hk1:(k:Int)<(n:Int):=by omega
   obtain ⟨ao',ca',e15,-,-,hcc⟩:=HTF.out.below hbw.out
   have hkT:k<L.length:=by have:=HN.out.1; omega
   obtain ⟨g,o,rfl,-,hcc⟩:=hcc (by omega)
   obtain ⟨rfl,-,-⟩:af=some ⟨g,o,none⟩∧True∧True:=by simp only[Value.slice.injEq] at e15; exact ⟨e15.1,trivial,trivial⟩
   have hx:=hcc k hkT
   have hft:=HT.out (L.getD k (0,[])) (by rw[List.getD_eq_getElem?_getD,List.getElem?_eq_getElem hkT]; exact List.getElem_mem hkT)
   have hat:=scaleAll_take hkT r noMap
   obtain ⟨⟨ti,tl⟩,htt⟩:∃x,x=L.getD k (0,[]):=⟨_,rfl⟩
   rw[←htt] at hx hft hat
   unfold fineTerm at hft
   simp only[] at hx hft hat
   obtain ⟨tt,htx⟩:∃s:ByteArray,s=⟨tl.toArray⟩:=⟨_,rfl⟩
   rw[←htx] at hx
   obtain ⟨tq,htq⟩:∃x,x=readVal tl:=⟨_,rfl⟩
   rw[←htq] at hat
   have hrd:=fun (W:World) (hgW:Glob W)=>mread_any tt (by
    have h1:tt.size=tl.length:=by rw[htx]; simp[ByteArray.size]
    have h2:=HN.out
    have h3:=hft.2.1
    omega) hgW (by rw[htx]; exact hft.2.2)
   rw[show tt.data.toList=tl by rw[htx],←htq] at hrd
   have y0:=hx.1
   have y1:=hx.2
   have HRDT:=ZH hrd
   have HAT:=ZH hat
   have HFT:=ZH (ZN hft.1 hft.2.1)
   have HLT:=ZH hlt
   have HRMK:=hrm
   clear hcc hx hft hat htt htx htq hrd hlt hkT hrm e15
   go_upto_region 5 with fail
   obtain ⟨w4,hw4⟩:∃x,x=wr.alloc (.cells #[.int .i64 (ti:Int),.string tt] 85):=⟨_,rfl⟩
   obtain ⟨bt,hbt⟩:∃b,b=wr.heap.size:=⟨_,rfl⟩
   rw[←hw4,←hbt]
   have hl4:Below wr.heap.size wr w4:=by rw[hw4]; exact (ZR _ wr).alloc (Nat.le_refl _) _
   have kt:w4.heap[bt]?=some (.cells #[.int .i64 (ti:Int),.string tt] 85 (0,0)):=by rw[hw4,hbt]; exact ZW wr _
   have HKT:=ZH kt
   have HB4:=ZH (hbw.out.trans (hl4.mono hbw.out.size))
   have HST4:=ZH (hst.out.trans (Stays.of_below hl4))
   have HRM4:=ZH (HRMK.out.below hl4)
   have HW4:=ZH (ZR w4.heap.size w4)
   have HTI:=ZH (show (-9223372036854775808:Int)≤(ti:Int)∧(ti:Int)≤9223372036854775807 by have:=HFT.out.1; have:=HN.out; omega)
   clear hw4 hbt hl4 kt y0 y1 hbw hst HRMK
   refine FlowR.wp_region_sel (fun a b=>Below a.heap.size a b) (fun a=>ZR _ a) (fun _ _ _ h k=>h.trans (k.mono h.size)) [0,1,2,3,4,5,6,7] [false,false,false,false,false,false,false,false,false] [true,true,true,true,true,true,true,true,false] (fun i9 v w'=>match i9 with
    | 0=>v=.map (some bm)
    | 1=>v=.pointer (some ⟨bt,0,none⟩)
    | 2=>v=.int .i64 (ti:Int)
    | 3=>v=.pointer (some ⟨bt,1,none⟩)
    | 4=>v=.string tt
    | 5=>RtIn w' v tq (S+2)
    | 6=>v=.agg #[.bool s1,.slice a1 c1 l1,.bool s2,.slice a2 c2 l2]
    | _=>RtIn w' v (tq*r) (S+2+kr)) rfl rfl (by kernel_rfl) (by kernel_rfl) (by kernel_rfl) (by kernel_rfl) ?st ?steps ?fin
   case st=>
    intro i9 v u1 u2 h hb
    match i9 with
    | 0 | 1 | 2 | 3 | 4 | 6=>exact h
    | 5=>exact (show RtIn u1 v tq (S+2) from h).below hb
    | 7 | _+8=>exact (show RtIn u1 v (tq*r) (S+2+kr) from h).below hb
   case steps=>
    refine zSc (zSo rfl ?s0) (zSc (zSo rfl ?s1) (zSc (zSo rfl ?s2) (zSc (zSo rfl ?s3) (zSc (zSo rfl ?s4) (zSc (zSo rfl ?s5) (zSc (zSo rfl ?s6) (zSc (zSo rfl ?s7) zSn)))))))
    case s0 | s1 | s3=>
     intro xs w' hb hT K9 hK9
     clear hT
     simp only[zFp,zAp,zLa,zLb,zLc,Nat.reduceAdd,zNz] at hK9⊢
     have hw:=Flow.hwD HW4.out hb
     go_simp
     exact hK9 _ _ (ZR _ _) rfl
    case s2=>
     intro xs w' hb hT K9 hK9
     have h1:(xs 1)=.pointer (some ⟨bt,0,none⟩):=hT 1 (by kernel_rfl)
     clear hT
     simp only[zFp,zAp,zLa,zLb,zLc,Nat.reduceAdd,zNz] at hK9⊢
     have hw:=Flow.hwD HW4.out hb
     have kb:=(hw.block bt (ZL HKT.out)).trans HKT.out
     have y0:=ZI kb 0
     clear kb
     simp at y0
     (try simp only[h1] at hK9)
     go_simp
     exact hK9 _ _ (ZR _ _) rfl
    case s4=>
     intro xs w' hb hT K9 hK9
     have h3:(xs 3)=.pointer (some ⟨bt,1,none⟩):=hT 3 (by kernel_rfl)
     clear hT
     simp only[zFp,zAp,zLa,zLb,zLc,Nat.reduceAdd,zNz] at hK9⊢
     have hw:=Flow.hwD HW4.out hb
     have kb:=(hw.block bt (ZL HKT.out)).trans HKT.out
     have y0:=ZI kb 1
     clear kb
     simp at y0
     (try simp only[h3] at hK9)
     go_simp
     exact hK9 _ _ (ZR _ _) rfl
    case s5=>
     intro xs w' hb hT K9 hK9
     have h4:(xs 4)=.string tt:=hT 4 (by kernel_rfl)
     clear hT
     simp only[zFp,zAp,zLa,zLb,zLc,Nat.reduceAdd,zNz] at hK9⊢
     have hw:=Flow.hwD HW4.out hb
     (try simp only[h4] at hK9)
     go_simp
     go_at_call 40
     refine (HRDT.out w' (HG.out.below (HB4.out.trans (hw.mono HB4.out.size)))).mono ?_
     rintro e w3 ⟨v3,rfl,hi3,hb3⟩
     exact hK9 _ _ hb3 (hi3.more (by have:=HFT.out.2; omega))
    case s6=>
     intro xs w' hb hT K9 hK9
     clear hT
     simp only[zFp,zAp,zLa,zLb,zLc,Nat.reduceAdd,zNz] at hK9⊢
     have hw:=Flow.hwD HW4.out hb
     have kb:=((HB4.out.trans (hw.mono HB4.out.size)).block bg (ZL HK2.out)).trans HK2.out
     have y0:=ZI kb 0
     have y1:=ZI kb 1
     have y2:=ZI kb 2
     have y3:=ZI kb 3
     clear kb
     simp at y0 y1 y2 y3
     go_simp
     exact hK9 _ _ (ZR _ _) rfl
    case s7=>
     intro xs w' hb hT K9 hK9
     have h5:RtIn w' (xs 5) tq (S+2):=hT 5 (by kernel_rfl)
     have h6:(xs 6)=.agg #[.bool s1,.slice a1 c1 l1,.bool s2,.slice a2 c2 l2]:=hT 6 (by kernel_rfl)
     clear hT
     simp only[zFp,zAp,zLa,zLb,zLc,Nat.reduceAdd,zNz] at hK9⊢
     have hw:=Flow.hwD HW4.out hb
     (try simp only[h6] at hK9)
     go_simp
     go_at_call 62
     refine (ratMul_any h5 ((HR.out.below HB4.out).below hw) (by omega) HN.out.2.2.2.2.2 (by have:=HN.out; omega)).mono ?_
     rintro e w3 ⟨v3,rfl,hi3,hb3⟩
     exact hK9 _ _ hb3 hi3
   case fin=>
    intro xs w' hb hT
    have hw:=Flow.hwD HW4.out hb
    have h0:(xs 0)=.map (some bm):=hT 0 (by rfl)
    have h2:(xs 2)=.int .i64 (ti:Int):=hT 2 (by rfl)
    have h7:RtIn w' (xs 7) (tq*r) (S+2+kr):=hT 7 (by rfl)
    clear hT
    simp only[zFp,zAp,zLa,zLb,zLc,Nat.reduceAdd,zNz,FlowR.restL,FlowR.orM,Bool.false_or]
    simp only[h0,h2]
    clear h0 h2
    obtain ⟨w5,hrun,hm5,hg5,hs5⟩:=(HRM4.out.below hw).store (by have:=HN.out; unfold maxLen; omega) HTI.out.1 HTI.out.2 (h7.more (show S+2+kr≤KK by have:=HKK.out; omega))
    have hbn:=(HB4.out.trans (hw.mono HB4.out.size)).grown hg5 (by have h1:=HB4.out.size; have h2:=hw.size; omega) (fun q e=>by cases e; exact HBM.out.2)
    have HF:=ZH (ZN hm5 (ZN hbn ((HST4.out.trans (Stays.of_below hw)).trans hs5)))
    clear h7 hm5 hg5 hs5 hbn hw hb
    go_wp2_with fail
    go_roundg (n-(k+1))
    case measure=>have:=HLT.out; omega
    case rel=>exact ⟨k+1,by have:=HLT.out; omega,by congr 1,ZH (by rw[HAT.out]; exact HF.out.1),ZH HF.out.2.2,ZH HF.out.2.1⟩
  ·have e1:((k:Int)<(n:Int))=False:=eq_false (by omega)
   obtain rfl:k=n:=by omega
   have HRMN:=ZH (show RMapIn wr bm k KK (scaleAll L r noMap) by
    have h:=hrm.out
    rw[List.take_of_length_le (by have:=HN.out.1; omega)] at h
    exact h)
   have HKEYS:=ZH (scaleAll_keys (T:=L) (N:=N) (r:=r) (m:=noMap) (fun p hp=>(HT.out p hp).1) (noMap_keys N))
   have HBW:=hbw
   have HWR:=ZH (ZR wr.heap.size wr)
   have HK1r:=ZH ((hbw.out.block bf (ZL HK1.out)).trans HK1.out)
   have HK2r:=ZH ((hbw.out.block bg (ZL HK2.out)).trans HK2.out)
   have HGR:=ZH (HG.out.below hbw.out)
   have HRR:=ZH (HR.out.below hbw.out)
   obtain ⟨SM,hSM⟩:∃x,x=sumTerms (scaleAll L r noMap) N:=⟨_,rfl⟩
   have HSM:=ZH hSM
   obtain ⟨CT,hCT⟩:∃x,x=numText (readVal c*r):=⟨_,rfl⟩
   have HCT:=ZH hCT
   clear hrm hst hbw hSM hCT
   go_upto_region 7 with fail
   refine FlowR.wp_region_sel (fun a b=>Below a.heap.size a b) (fun a=>ZR _ a) (fun _ _ _ h k=>h.trans (k.mono h.size)) [0,1,2,3,4,5,6] [false,false,false,false,false,false,false,false] [true,true,true,true,true,true,true,false] (fun i9 v w'=>match i9 with
    | 0=>v=.pointer (some ⟨bf,0,none⟩)
    | 1=>v=.string s
    | 2=>RtIn w' v (readVal c) (S+2)
    | 3=>v=.agg #[.bool s1,.slice a1 c1 l1,.bool s2,.slice a2 c2 l2]
    | 4=>RtIn w' v (readVal c*r) (S+2+kr)
    | 5=>v=.map (some bm)
    | _=>FormIn w' wa.heap.size v CT SM) rfl rfl (by kernel_rfl) (by kernel_rfl) (by kernel_rfl) (by kernel_rfl) ?st ?steps ?fin
   case st=>
    intro i9 v u1 u2 h hb
    match i9 with
    | 0 | 1 | 3 | 5=>exact h
    | 2=>exact (show RtIn u1 v (readVal c) (S+2) from h).below hb
    | 4=>exact (show RtIn u1 v (readVal c*r) (S+2+kr) from h).below hb
    | 6 | _+7=>exact (show FormIn u1 wa.heap.size v CT SM from h).below hb
   case steps=>
    refine zSc (zSo rfl ?s0) (zSc (zSo rfl ?s1) (zSc (zSo rfl ?s2) (zSc (zSo rfl ?s3) (zSc (zSo rfl ?s4) (zSc (zSo rfl ?s5) (zSc (zSo rfl ?s6) zSn))))))
    case s0 | s5=>
     intro xs w' hb hT K9 hK9
     clear hT
     simp only[zFp,zAp,zLa,zLb,zLc,Nat.reduceAdd,zNz] at hK9⊢
     have hw:=Flow.hwD HWR.out hb
     go_simp
     exact hK9 _ _ (ZR _ _) rfl
    case s1=>
     intro xs w' hb hT K9 hK9
     have h0:(xs 0)=.pointer (some ⟨bf,0,none⟩):=hT 0 (by kernel_rfl)
     clear hT
     simp only[zFp,zAp,zLa,zLb,zLc,Nat.reduceAdd,zNz] at hK9⊢
     have hw:=Flow.hwD HWR.out hb
     have kb:=(hw.block bf (ZL HK1r.out)).trans HK1r.out
     have y0:=ZI kb 0
     clear kb
     simp at y0
     (try simp only[h0] at hK9)
     go_simp
     exact hK9 _ _ (ZR _ _) rfl
    case s2=>
     intro xs w' hb hT K9 hK9
     have h1:(xs 1)=.string s:=hT 1 (by kernel_rfl)
     clear hT
     simp only[zFp,zAp,zLa,zLb,zLc,Nat.reduceAdd,zNz] at hK9⊢
     have hw:=Flow.hwD HWR.out hb
     (try simp only[h1] at hK9)
     go_simp
     go_at_call 40
     refine ((show Calls Tryz.prog 40 #[.string s] w' _ from mread_any s HS1.out.2 (HGR.out.below hw) (by rw[HS1.out.1]; exact HC.out.2))).mono ?_
     rintro e w3 ⟨v3,rfl,hi3,hb3⟩
     exact hK9 _ _ hb3 (by rw[HS1.out.1] at hi3; exact hi3.more (by have:=HC.out.1; omega))
    case s3=>
     intro xs w' hb hT K9 hK9
     clear hT
     simp only[zFp,zAp,zLa,zLb,zLc,Nat.reduceAdd,zNz] at hK9⊢
     have hw:=Flow.hwD HWR.out hb
     have kb:=(hw.block bg (ZL HK2r.out)).trans HK2r.out
     have y0:=ZI kb 0
     have y1:=ZI kb 1
     have y2:=ZI kb 2
     have y3:=ZI kb 3
     clear kb
     simp at y0 y1 y2 y3
     go_simp
     exact hK9 _ _ (ZR _ _) rfl
    case s4=>
     intro xs w' hb hT K9 hK9
     have h2:RtIn w' (xs 2) (readVal c) (S+2):=hT 2 (by kernel_rfl)
     have h3:(xs 3)=.agg #[.bool s1,.slice a1 c1 l1,.bool s2,.slice a2 c2 l2]:=hT 3 (by kernel_rfl)
     clear hT
     simp only[zFp,zAp,zLa,zLb,zLc,Nat.reduceAdd,zNz] at hK9⊢
     have hw:=Flow.hwD HWR.out hb
     (try simp only[h3] at hK9)
     go_simp
     go_at_call 62
     refine (ratMul_any h2 (HRR.out.below hw) (by omega) HN.out.2.2.2.2.2 (by have:=HN.out; omega)).mono ?_
     rintro e w3 ⟨v3,rfl,hi3,hb3⟩
     exact hK9 _ _ hb3 hi3
    case s6=>
     intro xs w' hb hT K9 hK9
     have h4:RtIn w' (xs 4) (readVal c*r) (S+2+kr):=hT 4 (by kernel_rfl)
     have h5:(xs 5)=.map (some bm):=hT 5 (by kernel_rfl)
     clear hT
     simp only[zFp,zAp,zLa,zLb,zLc,Nat.reduceAdd,zNz] at hK9⊢
     have hw:=Flow.hwD HWR.out hb
     (try simp only[h5] at hK9)
     go_simp
     go_at_call 39
     refine (mForm_any (HGR.out.below hw) h4 (by have:=HN.out; omega) (HRMN.out.below hw) (by have:=HN.out; omega) (by have:=HN.out; have:=HKK.out; omega) (by have:=HN.out; omega) HKEYS.out).mono ?_
     rintro e w3 ⟨v3,rfl,hi3,hb3⟩
     exact hK9 _ _ hb3 (by rw[HCT.out,HSM.out]; obtain ⟨tv3,e3,ht3⟩:=hi3; exact ⟨tv3,e3,World.ownsRow.mono ht3 (Nat.le_trans HBW.out.size hw.size)⟩)
   case fin=>
    intro xs w' hb hT
    have hw:=Flow.hwD HWR.out hb
    have h6:FormIn w' wa.heap.size (xs 6) CT SM:=hT 6 (by rfl)
    clear hT
    simp only[zFp,zAp,zLa,zLb,zLc,Nat.reduceAdd,zNz,FlowR.restL,FlowR.orM,Bool.false_or]
    obtain ⟨tv9,e9,ht9⟩:=h6
    obtain ⟨a9,n9,c9,rfl⟩:=ht9.shape
    simp only[e9]
    clear e9 hb
    have hkc:=(hw.block bc (ZL ((HBW.out.block bc (ZL HK3.out)).trans HK3.out))).trans ((HBW.out.block bc (ZL HK3.out)).trans HK3.out)
    have z0:=ZI hkc 0
    have z1:=ZI hkc 1
    have f0:=ZF hkc 0
    have f1:=ZF hkc 1
    simp at z0 z1
    obtain ⟨CS,hCS⟩:∃s:ByteArray,s=⟨CT.toArray⟩:=⟨_,rfl⟩
    rw[←hCS]
    have hr:=(ht9.set (ZL HK3.out) 0 (.string CS)).set (ZL HK3.out) 1 (.slice a9 n9 c9)
    have hbb:=((HAL.out.trans ((HBW.out.trans (hw.mono HBW.out.size)).mono HAL.out.size)).setCell (p:=⟨bc,0,none⟩) HGbc.out (.string CS)).setCell (p:=⟨bc,1,none⟩) HGbc.out (.slice a9 n9 c9)
    have HF:=ZH (ZN hr (ZN hbb hCS))
    clear ht9 hr hbb hkc hw hCS
    go_wp2_with fail
    refine bodyPost_ret (v:=.agg #[.string CS,.slice a9 n9 c9]) (by simp[results,Tryz.results22,go_sem,z0,z1]) rfl ⟨_,rfl,⟨_,by rw[HF.out.2.2,HCT.out],?_⟩,HF.out.2.1⟩
    rw[←HSM.out]
    exact World.ownsRow.mono HF.out.1 HAL.out.size
end Go.Proofs.YtdcaaehapdhckaaGreatDoor
