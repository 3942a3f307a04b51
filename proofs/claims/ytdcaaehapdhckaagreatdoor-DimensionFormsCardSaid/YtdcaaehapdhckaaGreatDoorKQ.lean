/- Blocks that stay; where what is appended lies. -/
import Derived.Test.YtdcaaehapdhckaaGreatDoorRRowM
import Derived.Test.YtdcaaehapdhckaaGreatDoorK1
import Derived.Test.YtdcaaehapdhckaaGreatDoorKI
import Derived.Test.YtdcaaehapdhckaaGreatDoorKW
import Derived.Test.YtdcaaehapdhckaaGreatDoorFlow2M
import Derived.Deep.Onto
set_option linter.unusedSimpArgs false
set_option linter.unusedVariables false
set_option maxRecDepth 100000
namespace Go.Proofs.YtdcaaehapdhckaaGreatDoor
open Go.RowKit Go.Num Go.Flow
set_option maxHeartbeats 4000000

def Keep (P:Nat→Prop) (w w':World):Prop:=w.heap.size≤w'.heap.size∧∀b,P b→b<w.heap.size→w'.heap[b]?=w.heap[b]?
theorem Keep.of_below {P:Nat→Prop} {w w':World} (h:Below w.heap.size w w'):Keep P w w':=⟨h.size,fun b _ hl=>h.block b hl⟩
theorem Keep.of_but {b:Nat} {w w':World} (h:But b w w'):Keep (fun g=>g≠b) w w':=⟨h.size,fun g hg hl=>h.block g hg hl⟩
theorem Keep.of_grown {r:Option Nat} {w w':World} (h:w.grownBy w' r):Keep (fun g=>r≠some g) w w':=⟨h.size,fun g hg hl=>h.block g hl fun e=>hg e.symm⟩
theorem cell_keep {w w':World} {g o:Nat} {u:Value} (h:w'.heap[g]?=w.heap[g]?) (hc:w.cell? ⟨g,o,none⟩=some u):w'.cell? ⟨g,o,none⟩=some u:=(World.cell?_of_block (a:=⟨g,o,none⟩) h).trans hc
theorem run_append_at {P:Program} {w:World} (base:Nat) (t ty e:TypeId) (i:TypeInfo) (z:Value) (size bytes:Nat) (ht:P.underlying t=some (.slice e)) (hi:P.info? e=some i) (hz:i.zero=some z)
  (hsize:i.size=size) (hby:i.bytes=bytes) (hzs:z.cells.size=size) (hsz:0<size)
  (v:Value) (n:Nat) (xs:List Value) (hown:w.ownsRow base e size v n xs)
  (a:Addr) (m c:Nat) (news:List Value) (hl:news.length=m*size) (hnews:∀j u,news[j]?=some u→w.cell? (a.add j)=some u) (h1:∀u∈news,u.oneCell'=true)
  (hm:0<m) (h63:n+m≤maxLen) (hbytes:(n+m)*bytes≤140737488355328) (hbase:base≤w.heap.size) :
  ∃v' w',(Builtin.append_ #[t,t] ty #[v,.slice (some a) m c]).run P w=.ok v' w'∧w'.ownsRow base e size v' (n+m) (xs++news)∧w.grownBy w' v.ownBlock∧(v'.ownBlock=v.ownBlock∨v'.ownBlock=some w.heap.size):=by
 obtain ⟨v',w',hr,h2,h3,-⟩:=run_append_own (P:=P) (w:=w) base t ty e i z size bytes ht hi hz hsize hby hzs hsz v n xs hown a m c news hl hnews h1 h63 hbytes hbase
 refine ⟨v',w',hr,h2,h3,?_⟩
 subst hsize
 subst hby
 have hsmall:n+m≤9223372036854775807:=by simp only[maxLen] at h63; omega
 have hxs:=hown.1
 rcases hown.2 with ⟨rfl,rfl⟩ | ⟨g,cap,cur,rfl,hbg,hg,hnc,hcm,hcs,htake⟩
 ·have hr2:=run_append_nil (P:=P) w t ty e i z ht hi hz a m c news hl hnews hm (by omega) (by have hb:=hbytes; simp only[Nat.zero_add] at hb; omega)
  rw[hr2] at hr
  simp only[Result.ok.injEq] at hr
  obtain ⟨rfl,rfl⟩:=hr
  exact .inr rfl
 ·by_cases hroom:n+m≤cap
  ·have hfit:n*i.size+news.length≤cur.size:=by rw[hl,hcs,←Nat.add_mul]; exact Nat.mul_le_mul_right _ hroom
   have hr2:=run_append_room (P:=P) w t ty e i ht hi g n cap cur hg a m c news hl hnews h1 hroom hfit
   rw[hr2] at hr
   simp only[Result.ok.injEq] at hr
   obtain ⟨rfl,rfl⟩:=hr
   exact .inl rfl
  ·have holds:∀j u,xs[j]?=some u→w.cell? ((⟨g,0,none⟩:Addr).add j)=some u:=hown.cells (g:=g) rfl
   have hr2:=run_append_grow (P:=P) w t ty e i z ht hi hz ⟨g,0,none⟩ n cap xs hxs holds a m c news hl hnews (by omega) (by omega) (growslice_fits (by omega) hbytes)
   rw[hr2] at hr
   simp only[Result.ok.injEq] at hr
   obtain ⟨rfl,rfl⟩:=hr
   exact .inr rfl
theorem row_keep {w w':World} {B:Nat} {t:TypeId} {k n:Nat} {v:Value} {l:List Value} (h:w.ownsRow B t k v n l) (hk:Keep (fun b=>v.ownBlock=some b) w w'):w'.ownsRow B t k v n l:=by
 refine ⟨h.1,?_⟩
 rcases h.2 with h1 | ⟨g,cap,cur,h1,h2,h3,h4⟩
 ·exact .inl h1
 ·exact .inr ⟨g,cap,cur,h1,h2,(hk.2 g (by rw[h1]; rfl) (ZL h3)).trans h3,h4⟩
open List renaming setIfInBounds_toArray → zLa, set_cons_zero → zLb, set_cons_succ → zLc
open FlowR renaming putSel → zFp
open Act renaming put → zAp
open Nat renaming zero_add → zNz
open Flow.Steps renaming cons → zSc, nil → zSn
open FlowR.Step renaming of → zSo
set_option maxHeartbeats 8000000
theorem pform_any {w:World} (hg:Glob w) {v:Value} {q0:Rat} {k0:Nat} (hq0:RtIn w v q0 k0) (hk900:k0≤900000) {ar:Option Addr} {cr:Nat} {rs:List Rat} {K:Nat} (hr:RatsAt w ar cr rs K) (hn:rs.length≤100000) (hK:K≤900000) :
  Calls Tryz.prog 61 #[v,.slice ar rs.length cr] w fun e w'=>∃v,e=.returned v∧FormIn w' w.heap.size v (numText q0) (sumTerms (tmap rs) rs.length)∧Below w.heap.size w w':=by
 obtain ⟨n,hnl⟩:∃n,n=rs.length:=⟨_,rfl⟩
 obtain ⟨s01,a01,c01,l01,s02,a02,c02,l02,rfl⟩:=rt_shape hq0
 obtain ⟨wa,br,bc,hwa,hbr,hbc,hal,k1,k2⟩:=new_two w #[.bool s01,.slice a01 c01 l01,.bool s02,.slice a02 c02 l02] #[.string ⟨#[]⟩,.slice none 0 0] 47 27
 have hcap:n≤cr∧cr≤9223372036854775807:=by rw[hnl]; exact ⟨hr.1,hr.2.1⟩
 have HGbc:=ZH (show w.heap.size≤bc by omega)
 have HAL:=ZH hal
 have HK0:=ZH k2
 have HR:=ZH (hr.below hal).2.2
 have HG:=ZH (hg.below hal)
 have HQ0:=ZH (hq0.below hal)
 have HNN:=ZH (ZN hnl (ZN hn hK))
 have HNM:=ZH (Number_any (hq0.below hal) hk900 (hg.below hal))
 have HW:=ZH (ZN hwa (ZN hbr hbc))
 have r0:=ZI k1 0
 have r1:=ZI k1 1
 have r2:=ZI k1 2
 have r3:=ZI k1 3
 simp at r0 r1 r2 r3
 rw[←hnl]
 clear hal hwa hbr hbc k1 k2 hr hg hq0 hn hnl
 go_enter Tryz.func61,Tryz.ntmps61
 go_upto_region 1 with fail
 rw[←HW.out.1,←HW.out.2.2,←HW.out.2.1]
 clear HW
 go_wp2_with fail
 refine HNM.out.mono ?_
 rintro e w2 ⟨rfl,hb2⟩
 have HB2:=ZH hb2
 clear hb2 r0 r1 r2 r3
 go_upto_region 2 with fail
 obtain ⟨S,hS⟩:∃S:ByteArray,S=⟨(numText q0).toArray⟩:=⟨_,rfl⟩
 rw[←hS]
 obtain ⟨w3,hw3⟩:∃x,x=w2.alloc (.cells #[.string S,.slice none 0 0] 27):=⟨_,rfl⟩
 obtain ⟨bf,hbf⟩:∃b,b=w2.heap.size:=⟨_,rfl⟩
 rw[←hw3,←hbf]
 have hl3:Below w2.heap.size w2 w3:=by rw[hw3]; exact (ZR _ w2).alloc (Nat.le_refl _) _
 have HGF:=ZH (show wa.heap.size≤bf by rw[hbf]; exact HB2.out.size)
 have kf:w3.heap[bf]?=some (.cells #[.string S,.slice none 0 0] 27 (0,0)):=by rw[hw3,hbf]; exact ZW w2 _
 have HB3:=ZH (HB2.out.trans (hl3.mono HB2.out.size))
 have HKF:=ZH kf
 have HS:=ZH hS
 clear hw3 hl3 kf hS hbf
 go_wp2_with fail
 go_loopg [6] n (fun gkk x wr=>∃(k:Nat) (tv:Value),k+gkk=n∧x=.int .i64 k∧Hid (wr.heap[bf]?=some (.cells #[.string S,tv] 27 (0,0))∧TermRow wr wa.heap.size tv (sumTerms (tmap rs) k))∧Hid (Below wa.heap.size wa wr))
 case atStart=>exact ⟨0,_,Nat.zero_add _,rfl,ZH ⟨HKF.out,World.ownsRow_nil _ _ _ _⟩,HB3⟩
 case round=>
  obtain ⟨k,tv,hk,rfl,hkf,hbw⟩:=hrel
  by_cases hlt:k<n
  ·have e1:((k:Int)<(n:Int))=True:=eq_true (by omega)
   have hk0:(0:Int)≤(k:Int):=by omega
   have hk1:(k:Int)<(n:Int):=by omega
   obtain ⟨rb,ro,rfl,-,hrc⟩:=HR.out (by have:=HNN.out.1; omega)
   obtain ⟨q,hq⟩:∃q,q=rs.getD k 0:=⟨_,rfl⟩
   have hy:=hrc k (by have:=HNN.out.1; omega)
   rw[←hq] at hy
   obtain ⟨s1,a1,c1,l1,s2,a2,c2,l2,u0,u1,u2,u3,hrt⟩:=hy
   have HY:=ZH (ZN u0 (ZN u1 (ZN u2 (ZN u3 hrt))))
   have z0:=ZJ hbw.out u0
   have z1:=ZJ hbw.out u1
   have z2:=ZJ hbw.out u2
   have z3:=ZJ hbw.out u3
   have HKT:=ZH (show sumTerms (tmap rs) (k+1)=sumTerms (tmap rs) k++termOf q k by rw[sumTerms_succ,tmap_tot,←hq])
   have HLT:=ZH (ZN hlt hk)
   have HSG:=ZH (ratSign_any (hrt.below hbw.out))
   have HBW:=ZH hbw.out
   have HKF2:=ZH hkf.out
   clear hrc hq u0 u1 u2 u3 hrt hlt hk hbw hkf
   go_wp2_with fail
   refine HSG.out.mono ?_
   rintro e wc ⟨rfl,hb5⟩
   have HT5:=ZH (HKF2.out.2.below hb5)
   have HF5:=ZH ((hb5.block bf (ZL HKF2.out.1)).trans HKF2.out.1)
   have HBF:=ZH (HBW.out.trans (hb5.mono HBW.out.size))
   clear hb5 z0 z1 z2 z3 HSG HKF2 HBW
   by_cases hz:q.num=0
   ·have e2:(cmpI q.num 0 != 0)=false:=by rw[cmp_nez,hz]; rfl
    have HTE:=ZH (show sumTerms (tmap rs) (k+1)=sumTerms (tmap rs) k by
     rw[HKT.out]
     unfold termOf
     rw[if_pos hz,List.append_nil])
    clear hz
    go_wp2_with fail
    go_roundg (n-(k+1))
    case measure=>have:=HLT.out; omega
    case rel=>exact ⟨k+1,tv,by have:=HLT.out; omega,by first | (congr 1; done) | (congr 1; exact IntWalk.wrap64_in ((k:Int)+1) (by have h1:=HLT.out; have h2:=HNN.out; omega)),ZH ⟨HF5.out,by rw[HTE.out]; exact HT5.out⟩,HBF⟩
   ·have e2:(cmpI q.num 0 != 0)=true:=by rw[cmp_nez]; exact ZT hz
    obtain ⟨ta,tn,tc,rfl⟩:=HT5.out.shape
    obtain ⟨NT,hNT⟩:∃S:ByteArray,S=⟨(numText q).toArray⟩:=⟨_,rfl⟩
    have HNT:=ZH hNT
    have HTS:=ZH (show sumTerms (tmap rs) (k+1)=sumTerms (tmap rs) k++[(k,numText q)] by
     rw[HKT.out]
     unfold termOf
     rw[if_neg hz])
    obtain ⟨i0,hi,hz0,hz1,hz2⟩:=info_parts infoTerm
    have HI:=ZH (ZN hi (ZN hz0 (ZN hz1 hz2)))
    have HTL:=ZH (terms_len (tmap rs) k)
    have HOB:=ZH (HT5.out.off HF5.out (by decide))
    have HWC:=ZH (ZR wc.heap.size wc)
    clear hi hz0 hz1 hz2 hNT hz
    go_upto_region 6 with fail
    refine FlowR.wp_region_sel (fun a b=>Below a.heap.size a b) (fun a=>ZR _ a) (fun _ _ _ h k=>h.trans (k.mono h.size)) [0,1,2,3,4,5,6,7,8,9] [false,false,false,false,false,false,false,false,false,false,false,false,false] [true,true,true,true,true,true,true,true,true,true,false,false,false] (fun i9 v w'=>match i9 with
     | 0=>v=.pointer (some ⟨bf,1,none⟩)
     | 1=>v=.slice ta tn tc
     | 2=>v=.int .i64 (k:Int)
     | 3=>v=.slice (some ⟨rb,ro,none⟩) n cr
     | 4=>v=.int .i64 (k:Int)
     | 5=>v=.pointer (some ⟨rb,ro+k*4,none⟩)
     | 6=>v=.agg #[.bool s1,.slice a1 c1 l1,.bool s2,.slice a2 c2 l2]
     | 7=>v=.string NT
     | 8=>v=.agg #[.int .i64 (k:Int),.string NT]
     | _=>∃b,v=.slice (some ⟨b,0,none⟩) 1 1∧w'.heap[b]?=some (.cells #[.int .i64 (k:Int),.string NT] 85 (0,0))∧wc.heap.size≤b) rfl rfl (by kernel_rfl) (by kernel_rfl) (by kernel_rfl) (by kernel_rfl) ?st ?_ ?_
    case st=>
     intro i9 v u1 u2 h hb
     match i9 with
     | 0 | 1 | 2 | 3 | 4 | 5 | 6 | 7 | 8=>exact h
     | 9 | _+10=>exact by obtain ⟨b,e,hk,hl⟩:=(show ∃b,v=.slice (some ⟨b,0,none⟩) 1 1∧u1.heap[b]?=some (.cells #[.int .i64 (k:Int),.string NT] 85 (0,0))∧wc.heap.size≤b from h); exact ⟨b,e,(hb.block b (ZL hk)).trans hk,hl⟩
    refine zSc (zSo rfl ?s0) (zSc (zSo rfl ?s1) (zSc (zSo rfl ?s2) (zSc (zSo rfl ?s3) (zSc (zSo rfl ?s4) (zSc (zSo rfl ?s5) (zSc (zSo rfl ?s6) (zSc (zSo rfl ?s7) (zSc (zSo rfl ?s8) (zSc (zSo rfl ?s9) zSn)))))))))
    case s0 | s2 | s3 | s4=>
     intro xs w' hb hT K9 hK9
     clear hT
     simp only[zFp,zAp,zLa,zLb,zLc,Nat.reduceAdd,zNz] at hK9⊢
     have hw:=Flow.hwD HWC.out hb
     go_simp
     exact hK9 _ _ (ZR _ _) rfl
    case s1=>
     intro xs w' hb hT K9 hK9
     have h0:(xs 0)=.pointer (some ⟨bf,1,none⟩):=hT 0 (by kernel_rfl)
     clear hT
     simp only[zFp,zAp,zLa,zLb,zLc,Nat.reduceAdd,zNz] at hK9⊢
     have hw:=Flow.hwD HWC.out hb
     have kb:=(hw.block bf (ZL HF5.out)).trans HF5.out
     have y0:=ZI kb 1
     clear kb
     simp at y0
     (try simp only[h0] at hK9)
     go_simp
     exact hK9 _ _ (ZR _ _) rfl
    case s5=>
     intro xs w' hb hT K9 hK9
     have h3:(xs 3)=.slice (some ⟨rb,ro,none⟩) n cr:=hT 3 (by kernel_rfl)
     have h4:(xs 4)=.int .i64 (k:Int):=hT 4 (by kernel_rfl)
     clear hT
     simp only[zFp,zAp,zLa,zLb,zLc,Nat.reduceAdd,zNz] at hK9⊢
     have hw:=Flow.hwD HWC.out hb
     (try simp only[h3] at hK9)
     (try simp only[h4] at hK9)
     go_simp
     exact hK9 _ _ (ZR _ _) rfl
    case s6=>
     intro xs w' hb hT K9 hK9
     have h5:(xs 5)=.pointer (some ⟨rb,ro+k*4,none⟩):=hT 5 (by kernel_rfl)
     clear hT
     simp only[zFp,zAp,zLa,zLb,zLc,Nat.reduceAdd,zNz] at hK9⊢
     have hw:=Flow.hwD HWC.out hb
     (try simp only[h5] at hK9)
     have hbb:=HBF.out.trans (hw.mono HBF.out.size)
     have y0:=ZJ hbb HY.out.1
     have y1:=ZJ hbb HY.out.2.1
     have y2:=ZJ hbb HY.out.2.2.1
     have y3:=ZJ hbb HY.out.2.2.2.1
     clear hbb
     go_simp
     exact hK9 _ _ (ZR _ _) rfl
    case s7=>
     intro xs w' hb hT K9 hK9
     have h6:(xs 6)=.agg #[.bool s1,.slice a1 c1 l1,.bool s2,.slice a2 c2 l2]:=hT 6 (by kernel_rfl)
     clear hT
     simp only[zFp,zAp,zLa,zLb,zLc,Nat.reduceAdd,zNz] at hK9⊢
     have hw:=Flow.hwD HWC.out hb
     (try simp only[h6] at hK9)
     go_simp
     go_at_call 37
     refine (Number_any (HY.out.2.2.2.2.below (HBF.out.trans (hw.mono HBF.out.size))) (by have:=HNN.out; omega) (HG.out.below (HBF.out.trans (hw.mono HBF.out.size)))).mono ?_
     rintro e w3 ⟨rfl,hb3⟩
     exact hK9 _ _ hb3 (by rw[HNT.out])
    case s8=>
     intro xs w' hb hT K9 hK9
     have h2:(xs 2)=.int .i64 (k:Int):=hT 2 (by kernel_rfl)
     have h7:(xs 7)=.string NT:=hT 7 (by kernel_rfl)
     clear hT
     simp only[zFp,zAp,zLa,zLb,zLc,Nat.reduceAdd,zNz] at hK9⊢
     have hw:=Flow.hwD HWC.out hb
     (try simp only[h2] at hK9)
     (try simp only[h7] at hK9)
     go_simp
     exact hK9 _ _ (ZR _ _) rfl
    case s9=>
     intro xs w' hb hT K9 hK9
     have h8:(xs 8)=.agg #[.int .i64 (k:Int),.string NT]:=hT 8 (by kernel_rfl)
     clear hT
     simp only[zFp,zAp,zLa,zLb,zLc,Nat.reduceAdd,zNz] at hK9⊢
     have hw:=Flow.hwD HWC.out hb
     (try simp only[h8] at hK9)
     go_simp
     exact hK9 _ _ ((ZR _ _).alloc (Nat.le_refl _) _) ⟨_,rfl,ZW _ _,by have h1:=(ZR wc.heap.size wc).drew.size; have h2:=hw.size; omega⟩
    intro xs w' hb hT
    have hw:=Flow.hwD HWC.out hb
    have h1:(xs 1)=.slice ta tn tc:=hT 1 (by rfl)
    have h9:∃b,(xs 9)=.slice (some ⟨b,0,none⟩) 1 1∧w'.heap[b]?=some (.cells #[.int .i64 (k:Int),.string NT] 85 (0,0))∧wc.heap.size≤b:=hT 9 (by rfl)
    clear hT
    simp only[zFp,zAp,zLa,zLb,zLc,Nat.reduceAdd,zNz,FlowR.restL,FlowR.orM,Bool.false_or]
    obtain ⟨b6,e6,k6,hl6⟩:=h9
    simp only[h1,e6]
    clear h1 e6 hb
    have kf7:=(hw.block bf (ZL HF5.out)).trans HF5.out
    have TT:=ZH (HT5.out.below hw)
    have HW7:=ZH hw
    have HKF7:=ZH kf7
    have HK6:=ZH (ZN k6 hl6)
    clear hw kf7 k6 hl6
    refine wpList_append_own _ rfl _ _ 25 rfl wa.heap.size 85 i0 _ 2 24 Tryz.underlying25 HI.out.1 HI.out.2.1 HI.out.2.2.1 HI.out.2.2.2 rfl (by decide) _ _ _ rfl TT.out ⟨b6,0,none⟩ 1 1 [.int .i64 (k:Int),.string NT] rfl rfl ?c1 ?c2 ?c3 ?c4 ?c5 ?_
    case c1=>exact World.news_of_block HK6.out.1
    case c2=>simp[Value.oneCell']
    case c3=>have:=HTL.out; have:=HLT.out; have:=HNN.out; unfold maxLen; omega
    case c4=>have:=HTL.out; have:=HLT.out; have:=HNN.out; omega
    case c5=>have h1:=HBF.out.size; have h2:=HW7.out.size; omega
    intro v7 w7 hown7 hg7 _
    have k7:=(hg7.block bf (by have h1:=ZL HF5.out; have h2:=HW7.out.size; omega) (fun e=>HOB.out bf e.symm rfl)).trans HKF7.out
    have y1:=ZI k7 1
    have g1:=ZF k7 1
    simp at y1
    have hb7:=(HBF.out.trans (HW7.out.mono HBF.out.size)).grown hg7 (by have h1:=HBF.out.size; have h2:=HW7.out.size; omega) (fun q e=>(World.ownsRow.lt TT.out q e).1)
    have hr7:TermRow w7 wa.heap.size v7 (sumTerms (tmap rs) (k+1)):=by
     rw[HTS.out]
     rw[HNT.out] at hown7
     exact TermRow.snoc hown7
    obtain ⟨a7,n7,c7,rfl⟩:=hr7.shape
    have HO7:=ZH (hr7.off k7 (by decide))
    have HR7:=ZH hr7
    clear hr7
    have H7:=ZH (ZN hown7 (ZN k7 hb7))
    clear hown7 hg7 k7 hb7
    go_wp2_with fail
    go_roundg (n-(k+1))
    case measure=>have:=HLT.out; omega
    case rel=>exact ⟨k+1,_,by have:=HLT.out; omega,by first | (congr 1; done) | (congr 1; exact IntWalk.wrap64_in ((k:Int)+1) (by have h1:=HLT.out; have h2:=HNN.out; omega)),ZH ⟨two_set1 H7.out.2.1 _,TermRow.setNe HR7.out HO7.out 1 _⟩,ZH (H7.out.2.2.setCell (p:=⟨bf,1,none⟩) HGF.out _)⟩
  ·have e1:((k:Int)<(n:Int))=False:=eq_false (by omega)
   obtain rfl:k=n:=by omega
   obtain ⟨ta,tn,tc,rfl⟩:=hkf.out.2.shape
   have y0:=ZI hkf.out.1 0
   have y1:=ZI hkf.out.1 1
   simp at y0 y1
   have hkc:=(hbw.out.block bc (ZL HK0.out)).trans HK0.out
   have z0:=ZI hkc 0
   have z1:=ZI hkc 1
   have f0:=ZF hkc 0
   have f1:=ZF hkc 1
   simp at z0 z1
   have hr:=(hkf.out.2.set (ZL HK0.out) 0 (.string S)).set (ZL HK0.out) 1 (.slice ta tn tc)
   have hb:=((HAL.out.trans (hbw.out.mono HAL.out.size)).setCell (p:=⟨bc,0,none⟩) HGbc.out (.string S)).setCell (p:=⟨bc,1,none⟩) HGbc.out (.slice ta tn tc)
   have HF:=ZH (ZN hr hb)
   clear hr hb hkc hkf
   go_wp2_with fail
   refine bodyPost_ret (v:=.agg #[.string S,.slice ta tn tc]) (by simp[results,Tryz.results61,go_sem,z0,z1]) rfl ⟨_,rfl,⟨_,by rw[HS.out],?_⟩,HF.out.2⟩
   exact World.ownsRow.mono HF.out.1 HAL.out.size
end Go.Proofs.YtdcaaehapdhckaaGreatDoor
