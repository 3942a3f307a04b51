/- Rationals: reduced. -/
import Derived.Test.YtdcaaehapdhckaaGreatDoorKC
set_option linter.unusedSimpArgs false
set_option linter.unusedVariables false
set_option maxRecDepth 100000
namespace Go.Proofs.YtdcaaehapdhckaaGreatDoor
open List renaming setIfInBounds_toArray → zLa, set_cons_zero → zLb, set_cons_succ → zLc, take_succ_cons → zLd, take_zero → zLe
open Act renaming put → zAp
open Nat renaming zero_add → zNz
open Go.RowKit Go.Num Go.Flow
set_option maxHeartbeats 16000000

theorem quad_block {w:World} {b:Nat} {t:TypeId} {c0 c1 c2 c3:Value} (h:w.heap[b]?=some (.cells #[c0,c1,c2,c3] t (0,0))) (u0 u1 u2 u3:Value):((((w.setCell ⟨b,0,none⟩ u0).setCell ⟨b,1,none⟩ u1).setCell ⟨b,2,none⟩ u2).setCell ⟨b,3,none⟩ u3).heap[b]?=some (.cells #[u0,u1,u2,u3] t (0,0)):=by
 have h1:=heap_setCell_same w b 0 _ _ u0 h
 have h2:=heap_setCell_same _ b 1 _ _ u1 h1
 have h3:=heap_setCell_same _ b 2 _ _ u2 h2
 exact heap_setCell_same _ b 3 _ _ u3 h3
theorem divInt_norm {a b g p q:Int} (hb:0<b) (hg:g=(Nat.gcd a.natAbs b.natAbs:Nat)) (hp:a=p*g) (hq:b=q*g):(Rat.divInt a b).num=p∧((Rat.divInt a b).den:Int)=q:=by
 have hg0:0<g:=by
  have:0<Nat.gcd a.natAbs b.natAbs:=Nat.gcd_pos_of_pos_right _ (by omega)
  omega
 have hq0:0<q:=by
  by_cases h:0<q
  ·exact h
  ·exfalso
   have h2:=Int.mul_le_mul_of_nonneg_right (show q≤0 by omega) (show 0≤g by omega)
   rw[Int.zero_mul] at h2
   omega
 have e:Rat.divInt a b=Rat.divInt p q:=by
  rw[Rat.divInt_eq_divInt_iff (by omega) (by omega),hp,hq,Int.mul_assoc,Int.mul_comm g q]
 have hcop:Nat.gcd p.natAbs q.natAbs=1:=by
  have h1:Nat.gcd a.natAbs b.natAbs=Nat.gcd p.natAbs q.natAbs*g.natAbs:=by rw[hp,hq,Int.natAbs_mul,Int.natAbs_mul,Nat.gcd_mul_right]
  have h2:g.natAbs=Nat.gcd a.natAbs b.natAbs:=by rw[hg]; rfl
  rw[←h2] at h1
  have h3:1*g.natAbs=Nat.gcd p.natAbs q.natAbs*g.natAbs:=by omega
  exact (Nat.eq_of_mul_eq_mul_right (by omega) h3).symm
 rw[e]
 obtain ⟨m,rfl⟩:∃m:Nat,q=(m:Int):=⟨q.toNat,by omega⟩
 have hm:m≠0:=by omega
 have e2:Rat.divInt p (m:Int)=⟨p,m,hm,hcop⟩:=Rat.mk_eq_divInt.symm
 rw[e2]
 exact ⟨rfl,rfl⟩
theorem cmp_less0 {x:Int}:decide (cmpI x 0<0)=decide (x<0):=by
 unfold cmpI
 by_cases h1:x<0
 ·rw[if_pos h1,ZT h1]; rfl
 ·by_cases h2:0<x
  ·rw[if_neg h1,if_pos h2,ZU h1]; rfl
  ·rw[if_neg h1,if_neg h2,ZU h1]; rfl
theorem cmp_nez {x y:Int}:(cmpI x y != 0)=decide (x≠y):=by
 unfold bne
 rw[cmp_zero]
 by_cases h:x=y<;>simp[h]
theorem gcd_parts {p q:Int} (hq:0<q):∃G p2 q2:Int,G=(Nat.gcd p.natAbs q.natAbs:Nat)∧0<G∧p=p2*G∧q=q2*G:=by
 have h1:(Nat.gcd p.natAbs q.natAbs:Int) ∣ p:=Int.ofNat_dvd_left.2 (Nat.gcd_dvd_left _ _)
 have h2:(Nat.gcd p.natAbs q.natAbs:Int) ∣ q:=Int.ofNat_dvd_left.2 (Nat.gcd_dvd_right _ _)
 obtain ⟨p2,hp⟩:=h1
 obtain ⟨q2,hq2⟩:=h2
 have h3:0<Nat.gcd p.natAbs q.natAbs:=Nat.gcd_pos_of_pos_right _ (by omega)
 exact ⟨_,p2,q2,rfl,by omega,by rw[Int.mul_comm]; exact hp,by rw[Int.mul_comm]; exact hq2⟩
structure RedAt (w ws:World) (ba bb bc:Nat) (sa:Bool) (aa:Option Addr) (ma ca:Nat) (sb:Bool) (ab:Option Addr) (mb cb:Nat) (p q:Int) (k:Nat):Prop where
 ha:ws.heap[ba]?=some (.cells #[.bool sa,.slice aa ma ca] 45 (0,0))
 hb:ws.heap[bb]?=some (.cells #[.bool sb,.slice ab mb cb] 45 (0,0))
 hc:ws.heap[bc]?=some (.cells #[.bool false,.slice none 0 0,.bool false,.slice none 0 0] 47 (0,0))
 ia:IntIn ws (.agg #[.bool sa,.slice aa ma ca]) p k
 ib:IntIn ws (.agg #[.bool sb,.slice ab mb cb]) q k
 below:Below w.heap.size w ws
theorem RedAt.later {w ws wt:World} {ba bb bc:Nat} {sa:Bool} {aa:Option Addr} {ma ca:Nat} {sb:Bool} {ab:Option Addr} {mb cb:Nat} {p q:Int} {k:Nat} (h:RedAt w ws ba bb bc sa aa ma ca sb ab mb cb p q k) (hb:Below ws.heap.size ws wt):RedAt w wt ba bb bc sa aa ma ca sb ab mb cb p q k:=
 ⟨(hb.block ba (ZL h.ha)).trans h.ha,(hb.block bb (ZL h.hb)).trans h.hb,(hb.block bc (ZL h.hc)).trans h.hc,h.ia.below hb,h.ib.below hb,h.below.trans (hb.mono h.below.size)⟩
theorem RedAt.setA {w ws:World} {ba bb bc:Nat} {sa:Bool} {aa:Option Addr} {ma ca:Nat} {sb:Bool} {ab:Option Addr} {mb cb:Nat} {p q p2:Int} {k:Nat} {s2:Bool} {a2:Option Addr} {m2 c2:Nat} (h:RedAt w ws ba bb bc sa aa ma ca sb ab mb cb p q k) (hi:IntIn ws (.agg #[.bool s2,.slice a2 m2 c2]) p2 k) (hab:bb≠ba) (hac:bc≠ba) (hg:w.heap.size≤ba) :
  RedAt w ((ws.setCell ⟨ba,0,none⟩ (.bool s2)).setCell ⟨ba,1,none⟩ (.slice a2 m2 c2)) ba bb bc s2 a2 m2 c2 sb ab mb cb p2 q k:=
 ⟨pair_block h.ha _ _,(pair_other hab _ _).trans h.hb,(pair_other hac _ _).trans h.hc,hi.pair h.ha _ _,h.ib.pair h.ha _ _,(h.below.setCell hg _).setCell hg _⟩
theorem RedAt.setB {w ws:World} {ba bb bc:Nat} {sa:Bool} {aa:Option Addr} {ma ca:Nat} {sb:Bool} {ab:Option Addr} {mb cb:Nat} {p q q2:Int} {k:Nat} {s2:Bool} {a2:Option Addr} {m2 c2:Nat} (h:RedAt w ws ba bb bc sa aa ma ca sb ab mb cb p q k) (hi:IntIn ws (.agg #[.bool s2,.slice a2 m2 c2]) q2 k) (hab:ba≠bb) (hac:bc≠bb) (hg:w.heap.size≤bb) :
  RedAt w ((ws.setCell ⟨bb,0,none⟩ (.bool s2)).setCell ⟨bb,1,none⟩ (.slice a2 m2 c2)) ba bb bc sa aa ma ca s2 a2 m2 c2 p q2 k:=
 ⟨(pair_other hab _ _).trans h.ha,pair_block h.hb _ _,(pair_other hac _ _).trans h.hc,h.ia.pair h.hb _ _,hi.pair h.hb _ _,(h.below.setCell hg _).setCell hg _⟩
theorem reduced_any {w:World} {va vb:Value} {a b:Int} {k:Nat} (ha:IntIn w va a k) (hb:IntIn w vb b k) (hb0:b≠0) (hk:k≤900000):Calls Tryz.prog 100 #[va,vb] w fun e w'=>∃v,e=.returned v∧RtIn w' v (Rat.divInt a b) k∧Below w.heap.size w w':=by
 obtain ⟨na,ao,ca,la,rfl,-⟩:=int_sign ha
 obtain ⟨nb,bo,cb,lb,rfl,-⟩:=int_sign hb
 generalize la.length=NA at *
 generalize lb.length=NB at *
 obtain ⟨wa,hwa⟩:∃wa,wa=((w.alloc (.cells #[.bool na,.slice ao NA ca] 45)).alloc (.cells #[.bool nb,.slice bo NB cb] 45)).alloc (.cells #[.bool false,.slice none 0 0,.bool false,.slice none 0 0] 47):=⟨_,rfl⟩
 obtain ⟨ba,hba⟩:∃b,b=w.heap.size:=⟨_,rfl⟩
 obtain ⟨bb,hbb⟩:∃b,b=w.heap.size+1:=⟨_,rfl⟩
 obtain ⟨bc,hbc⟩:∃b,b=w.heap.size+2:=⟨_,rfl⟩
 have hal:Below w.heap.size w wa:=by rw[hwa]; exact (((ZR _ w).alloc (Nat.le_refl _) _).alloc (by simp) _).alloc (by simp; omega) _
 obtain ⟨k0,k1,k2⟩:=three_made w #[.bool na,.slice ao NA ca] #[.bool nb,.slice bo NB cb] #[.bool false,.slice none 0 0,.bool false,.slice none 0 0] 45 45 47
 rw[←hwa,←hba] at k0
 rw[←hwa,←hbb] at k1
 rw[←hwa,←hbc] at k2
 have HBba:=ZH k0
 have HBbb:=ZH k1
 have HBbc:=ZH k2
 have HAL:=ZH hal
 have HW0:=ZH (ZR wa.heap.size wa)
 have HW:=ZH (ZN hwa (ZN hba (ZN hbb hbc)))
 have HGbc:=ZH (show w.heap.size≤bc by omega)
 have HR:=ZH (show RedAt w wa ba bb bc na ao NA ca nb bo NB cb a b k from ⟨k0,k1,k2,ha.below hal,hb.below hal,hal⟩)
 have n1:¬ba=bb:=by omega
 have n2:¬bb=ba:=by omega
 have n3:¬bc=ba:=by omega
 have n4:¬bc=bb:=by omega
 have n5:¬ba=bc:=by omega
 have n6:¬bb=bc:=by omega
 have HGa:=ZH (show w.heap.size≤ba by omega)
 have HGb:=ZH (show w.heap.size≤bb by omega)
 clear ha hb
 clear hal hwa hba hbb hbc k0 k1 k2
 go_enter Tryz.func100,Tryz.ntmps100
 go_upto_region 1 with fail
 rw[←HW.out.1,←HW.out.2.2.2,←HW.out.2.2.1,←HW.out.2.1]
 clear HW
 refine wp_region_seq [0,1,2] 3 (fun i v w'=>match i with
  | 0=>v=.agg #[.bool nb,.slice bo NB cb]
  | 1=>v=.int .i64 (cmpI b 0)
  | _=>v=.bool (decide (b<0))) rfl rfl (by kernel_rfl) (by kernel_rfl) ?st ?steps ?fin
 case st=>
  intro i v w1 w2 h hb
  match i with
  | 0 | 1 | _+2=>exact h
 case steps=>
  refine Steps.cons (Step.of rfl ?s0) (Steps.cons (Step.of rfl ?s1) (Steps.cons (Step.of rfl ?s2) Steps.nil))
  case s0=>
   intro xs w' hb hT K hK
   clear hT
   simp only[zLd,zLe,putAll,zAp,zLa,zLb,zLc,Nat.reduceAdd,zNz] at hK⊢
   have hw:=Flow.hwP HW0.out hb
   have kb:=(hw.block bb (ZL HBbb.out)).trans HBbb.out
   have y0:=ZI kb 0
   have y1:=ZI kb 1
   clear kb
   simp at y0 y1
   go_simp
   exact hK _ _ (ZR _ _) rfl
  case s1=>
   intro xs w' hb hT K hK
   have h0:(xs 0)=.agg #[.bool nb,.slice bo NB cb]:=hT 0 (by kernel_rfl)
   clear hT
   simp only[zLd,zLe,putAll,zAp,zLa,zLb,zLc,Nat.reduceAdd,zNz] at hK⊢
   have hw:=Flow.hwP HW0.out hb
   (try simp only[h0] at hK)
   go_simp
   go_at_call 85
   refine (Sign_any (HR.out.ib.below hw)).mono ?_
   rintro e w3 ⟨rfl,hb3⟩
   exact hK _ _ hb3 rfl
  case s2=>
   intro xs w' hb hT K hK
   have h1:(xs 1)=.int .i64 (cmpI b 0):=hT 1 (by kernel_rfl)
   clear hT
   simp only[zLd,zLe,putAll,zAp,zLa,zLb,zLc,Nat.reduceAdd,zNz] at hK⊢
   have hw:=Flow.hwP HW0.out hb
   (try simp only[h1] at hK)
   go_simp
   exact hK _ _ (ZR _ _) (by rw[cmp_less0])
 case fin=>
  intro xs w' hb hT
  have hw:=Flow.hwP HW0.out hb
  have h2:(xs 2)=.bool (decide (b<0)):=hT 2 (by omega)
  clear hT
  simp only[zLd,zLe,putAll,zAp,zLa,zLb,zLc,Nat.reduceAdd,zNz,List.drop_succ_cons,List.drop_zero]
  refine wpList_nil ?_
  by_cases hneg:b<0
  ·rw[ZT hneg] at h2
   simp only[h2]
   obtain ⟨w1,e1⟩:∃w1,w1=w':=⟨_,rfl⟩
   rw[←e1] at hw⊢
   have HR1:=ZH (HR.out.later hw)
   have HW1:=ZH hw
   have HP:=ZH (show 0 < -b∧Rat.divInt a b=Rat.divInt (-a) (-b) from ⟨by omega,by rw[Rat.divInt_eq_divInt_iff hb0 (by omega),Int.mul_neg,Int.neg_mul]⟩)
   clear h2 e1 hw hb hneg
   go_upto_region 2 with fail
   refine wp_region_flow [0,1,2,3] 4 (fun i v w'=>match i with
    | 0=>v=.agg #[.bool na,.slice ao NA ca]
    | 1=>IntIn w' v (-a) k
    | 2=>v=.agg #[.bool nb,.slice bo NB cb]
    | _=>IntIn w' v (-b) k) rfl rfl (by kernel_rfl) (by kernel_rfl) ?st ?steps ?fin
   case st=>
    intro i v w1 w2 h hb
    match i with
    | 0 | 2=>exact h
    | 1=>exact (show IntIn w1 v (-a) k from h).below hb
    | _+3=>exact (show IntIn w1 v (-b) k from h).below hb
   case steps=>
    refine Steps.cons (Step.of rfl ?s0) (Steps.cons (Step.of rfl ?s1) (Steps.cons (Step.of rfl ?s2) (Steps.cons (Step.of rfl ?s3) Steps.nil)))
    case s0=>
     intro xs w' hb hT K hK
     clear hT
     simp only[zLd,zLe,putAll,zAp,zLa,zLb,zLc,Nat.reduceAdd,zNz] at hK⊢
     have hw:=Flow.hwD HW1.out hb
     have kb:=(hw.block ba (ZL HBba.out)).trans HBba.out
     have y0:=ZI kb 0
     have y1:=ZI kb 1
     clear kb
     simp at y0 y1
     go_simp
     exact hK _ _ (ZR _ _) rfl
    case s1=>
     intro xs w' hb hT K hK
     have h0:(xs 0)=.agg #[.bool na,.slice ao NA ca]:=hT 0 (by kernel_rfl)
     clear hT
     simp only[zLd,zLe,putAll,zAp,zLa,zLb,zLc,Nat.reduceAdd,zNz] at hK⊢
     have hw:=Flow.hwD HW1.out hb
     (try simp only[h0] at hK)
     go_simp
     go_at_call 134
     refine (Neg_any (HR.out.ia.below hw)).mono ?_
     rintro e w3 ⟨v3,rfl,hi3,hb3⟩
     exact hK _ _ hb3 hi3
    case s2=>
     intro xs w' hb hT K hK
     clear hT
     simp only[zLd,zLe,putAll,zAp,zLa,zLb,zLc,Nat.reduceAdd,zNz] at hK⊢
     have hw:=Flow.hwD HW1.out hb
     have kb:=(hw.block bb (ZL HBbb.out)).trans HBbb.out
     have y0:=ZI kb 0
     have y1:=ZI kb 1
     clear kb
     simp at y0 y1
     go_simp
     exact hK _ _ (ZR _ _) rfl
    case s3=>
     intro xs w' hb hT K hK
     have h2:(xs 2)=.agg #[.bool nb,.slice bo NB cb]:=hT 2 (by kernel_rfl)
     clear hT
     simp only[zLd,zLe,putAll,zAp,zLa,zLb,zLc,Nat.reduceAdd,zNz] at hK⊢
     have hw:=Flow.hwD HW1.out hb
     (try simp only[h2] at hK)
     go_simp
     go_at_call 134
     refine (Neg_any (HR.out.ib.below hw)).mono ?_
     rintro e w3 ⟨v3,rfl,hi3,hb3⟩
     exact hK _ _ hb3 hi3
   case fin=>
    intro xs w' hb hT
    have hw:=Flow.hwD HW1.out hb
    have h1:IntIn w' (xs 1) (-a) k:=hT 1 (by omega)
    have h3:IntIn w' (xs 3) (-b) k:=hT 3 (by omega)
    clear hT
    simp only[zLd,zLe,putAll,zAp,zLa,zLb,zLc,Nat.reduceAdd,zNz]
    obtain ⟨s4,a4,c4,l4,e4,-⟩:=int_sign h1
    obtain ⟨s5,a5,c5,l5,e5,-⟩:=int_sign h3
    rw[e4] at h1
    rw[e5] at h3
    simp only[e4,e5]
    generalize l4.length=N4 at *
    generalize l5.length=N5 at *
    have HR2:=ZH (HR.out.later hw)
    have HR3:=ZH ((HR.out.later hw).setA h1 n2 n3 HGa.out)
    have HR4:=ZH (((HR.out.later hw).setA h1 n2 n3 HGa.out).setB (h3.pair (HR.out.later hw).ha (.bool s4) (.slice a4 N4 c4)) n1 n4 HGb.out)
    clear h1 h3 e4 e5 hw hb
    have ya0:=ZI HR2.out.ha 0
    have ya1:=ZI HR2.out.ha 1
    have yb0:=ZI HR2.out.hb 0
    have yb1:=ZI HR2.out.hb 1
    have fa0:=ZF HR2.out.ha 0
    have fa1:=ZF HR2.out.ha 1
    have fb0:=ZF HR2.out.hb 0
    have fb1:=ZF HR2.out.hb 1
    simp at ya0 ya1 yb0 yb1
    refine wpAny_ready (rs:=[4]) (by kernel_rfl) (by simp) (AllReady.cons rfl (fun K hK=>?_) AllReady.nil)
    go_simp
    refine hK _ _ ?_
    clear hK K
    refine wpAny_ready (rs:=[5]) (by kernel_rfl) (by simp) (AllReady.cons rfl (fun K hK=>?_) AllReady.nil)
    go_simp
    refine hK _ _ ?_
    clear hK K
    refine wpAny_done (by kernel_rfl) ?_ _
    clear ya0 ya1 yb0 yb1 fa0 fa1 fb0 fb1
    generalize ((((w'.setCell ⟨ba,0,none⟩ (.bool s4)).setCell ⟨ba,1,none⟩ (.slice a4 N4 c4)).setCell ⟨bb,0,none⟩ (.bool s5)).setCell ⟨bb,1,none⟩ (.slice a5 N5 c5))=ws at *
    obtain ⟨G,p2,q2,hG,hG0,hpG,hqG⟩:=gcd_parts (p:=(-a)) (q:=(-b)) HP.out.1
    obtain ⟨e1,e2⟩:=divInt_norm HP.out.1 hG hpG hqG
    rw[←HP.out.2] at e1 e2
    have hq20:0<q2:=by
     by_cases h:0<q2
     ·exact h
     ·exfalso
      have h2:=Int.mul_le_mul_of_nonneg_right (show q2≤0 by omega) (show 0≤G by omega)
      rw[Int.zero_mul,←hqG] at h2
      have:=HP.out.1
      omega
    have HE:=ZH (show (Rat.divInt a b).num=p2∧((Rat.divInt a b).den:Int)=q2∧0<q2 from ⟨e1,e2,hq20⟩)
    have HQ:=ZH (ZN hG (ZN hG0 (ZN hpG hqG)))
    clear hG hG0 hpG hqG e1 e2 hq20
    have ya0:=ZI HR4.out.ha 0
    have ya1:=ZI HR4.out.ha 1
    have yb0:=ZI HR4.out.hb 0
    have yb1:=ZI HR4.out.hb 1
    have fa0:=ZF HR4.out.ha 0
    have fa1:=ZF HR4.out.ha 1
    have fb0:=ZF HR4.out.hb 0
    have fb1:=ZF HR4.out.hb 1
    simp at ya0 ya1 yb0 yb1
    go_upto_region 3 with fail
    go_wp2_with fail
    refine (Gcd_any HR4.out.ia HR4.out.ib hk).mono ?_
    rintro e w3 ⟨vg,rfl,hg3,hb3⟩
    rw[←HQ.out.1] at hg3
    obtain ⟨sg,ag,cg,lg,rfl,-⟩:=int_sign hg3
    generalize lg.length=NG at *
    clear ya0 ya1 yb0 yb1 fa0 fa1 fb0 fb1
    go_upto_region 4 with fail
    obtain ⟨bg,hbg⟩:∃b,b=w3.heap.size:=⟨_,rfl⟩
    have kg:=ZW w3 (.cells #[.bool sg,.slice ag NG cg] 45)
    have hb4:Below w3.heap.size w3 (w3.alloc (.cells #[.bool sg,.slice ag NG cg] 45)):=(ZR _ w3).alloc (Nat.le_refl _) _
    rw[←hbg] at kg
    rw[←hbg]
    have h3:=(HR4.out.later hb3).later hb4
    have h5:=hg3.below hb4
    have hne:ba≠bg∧bb≠bg∧bc≠bg:=by
     have e1:=ZL (HR4.out.later hb3).ha
     have e2:=ZL (HR4.out.later hb3).hb
     have e3:=ZL (HR4.out.later hb3).hc
     omega
    generalize w3.alloc (.cells #[.bool sg,.slice ag NG cg] 45)=w4 at *
    have HRB:=ZH h3
    have HBbg:=ZH kg
    have HIg:=ZH h5
    have HW4:=ZH (ZR w4.heap.size w4)
    have HNG:=ZH hne
    clear hb3 hb4 hg3 hbg h3 h5 kg hne
    refine wp_region_flow [0,1,2,3] 4 (fun i v w'=>match i with
     | 0=>v=.agg #[.bool sg,.slice ag NG cg]
     | 1=>IntIn w' v 1 2
     | 2=>v=.int .i64 (cmpI G 1)
     | _=>v=.bool (decide (G≠1))) rfl rfl (by kernel_rfl) (by kernel_rfl) ?st ?steps ?fin
    case st=>
     intro i v w1 w2 h hb
     match i with
     | 0 | 2 | _+3=>exact h
     | 1=>exact (show IntIn w1 v 1 2 from h).below hb
    case steps=>
     refine Steps.cons (Step.of rfl ?s0) (Steps.cons (Step.of rfl ?s1) (Steps.cons (Step.of rfl ?s2) (Steps.cons (Step.of rfl ?s3) Steps.nil)))
     case s0=>
      intro xs w' hb hT K hK
      clear hT
      simp only[zLd,zLe,putAll,zAp,zLa,zLb,zLc,Nat.reduceAdd,zNz] at hK⊢
      have hw:=Flow.hwD HW4.out hb
      have kb:=(hw.block bg (ZL HBbg.out)).trans HBbg.out
      have y0:=ZI kb 0
      have y1:=ZI kb 1
      clear kb
      simp at y0 y1
      go_simp
      exact hK _ _ (ZR _ _) rfl
     case s1=>
      intro xs w' hb hT K hK
      clear hT
      simp only[zLd,zLe,putAll,zAp,zLa,zLb,zLc,Nat.reduceAdd,zNz] at hK⊢
      have hw:=Flow.hwD HW4.out hb
      go_simp
      go_at_call 111
      refine (one_any _).mono ?_
      rintro e w3 ⟨v3,rfl,hi3,hb3⟩
      exact hK _ _ hb3 hi3
     case s2=>
      intro xs w' hb hT K hK
      have h0:(xs 0)=.agg #[.bool sg,.slice ag NG cg]:=hT 0 (by kernel_rfl)
      have h1:IntIn w' (xs 1) 1 2:=hT 1 (by kernel_rfl)
      clear hT
      simp only[zLd,zLe,putAll,zAp,zLa,zLb,zLc,Nat.reduceAdd,zNz] at hK⊢
      have hw:=Flow.hwD HW4.out hb
      (try simp only[h0] at hK)
      go_simp
      go_at_call 106
      refine (Compare_any (HIg.out.below hw) h1).mono ?_
      rintro e w3 ⟨rfl,hb3⟩
      exact hK _ _ hb3 rfl
     case s3=>
      intro xs w' hb hT K hK
      have h2:(xs 2)=.int .i64 (cmpI G 1):=hT 2 (by kernel_rfl)
      clear hT
      simp only[zLd,zLe,putAll,zAp,zLa,zLb,zLc,Nat.reduceAdd,zNz] at hK⊢
      have hw:=Flow.hwD HW4.out hb
      (try simp only[h2] at hK)
      go_simp
      exact hK _ _ (ZR _ _) (by rw[cmp_nez])
    case fin=>
     intro xs w' hb hT
     have hw:=Flow.hwD HW4.out hb
     have h3:(xs 3)=.bool (decide (G≠1)):=hT 3 (by omega)
     clear hT
     simp only[zLd,zLe,putAll,zAp,zLa,zLb,zLc,Nat.reduceAdd,zNz]
     refine wpAny_done (by kernel_rfl) ?_ _
     obtain ⟨w5,e5⟩:∃w5,w5=w':=⟨_,rfl⟩
     rw[←e5] at hw⊢
     have HRC:=ZH (HRB.out.later hw)
     have hkg:=(hw.block bg (ZL HBbg.out)).trans HBbg.out
     have HKG:=ZH hkg
     have HIG:=ZH (HIg.out.below hw)
     clear e5 hw hb hkg
     by_cases hg1:G=1
     ·rw[ZU (show ¬G≠1 from fun h=>h hg1)] at h3
      simp only[h3]
      clear h3
      have hpe:(-a)=p2:=by rw[HQ.out.2.2.1,hg1,Int.mul_one]
      have hqe:(-b)=q2:=by rw[HQ.out.2.2.2,hg1,Int.mul_one]
      have HE2:=HE
      rw[←hpe,←hqe] at HE
      clear HE2 hpe hqe hg1
      have ya0:=ZI HRC.out.ha 0
      have ya1:=ZI HRC.out.ha 1
      have yb0:=ZI HRC.out.hb 0
      have yb1:=ZI HRC.out.hb 1
      have fa0:=ZF HRC.out.ha 0
      have fa1:=ZF HRC.out.ha 1
      have fb0:=ZF HRC.out.hb 0
      have fb1:=ZF HRC.out.hb 1
      simp at ya0 ya1 yb0 yb1
      have yc0:=ZI HRC.out.hc 0
      have yc1:=ZI HRC.out.hc 1
      have yc2:=ZI HRC.out.hc 2
      have yc3:=ZI HRC.out.hc 3
      have fc0:=ZF HRC.out.hc 0
      have fc1:=ZF HRC.out.hc 1
      have fc2:=ZF HRC.out.hc 2
      have fc3:=ZF HRC.out.hc 3
      simp at yc0 yc1 yc2 yc3
      have i1:=HRC.out.ia.store4 HRC.out.hc (.bool s4) (.slice a4 N4 c4) (.bool s5) (.slice a5 N5 c5)
      have i2:=HRC.out.ib.store4 HRC.out.hc (.bool s4) (.slice a4 N4 c4) (.bool s5) (.slice a5 N5 c5)
      have hbf:=(((HRC.out.below.setCell (p:=⟨bc,0,none⟩) HGbc.out (.bool s4)).setCell (p:=⟨bc,1,none⟩) HGbc.out (.slice a4 N4 c4)).setCell (p:=⟨bc,2,none⟩) HGbc.out (.bool s5)).setCell (p:=⟨bc,3,none⟩) HGbc.out (.slice a5 N5 c5)
      have HF:=ZH (ZN i1 (ZN i2 hbf))
      clear i1 i2 hbf
      go_wp2_with fail
      refine bodyPost_ret (v:=.agg #[.bool s4,.slice a4 N4 c4,.bool s5,.slice a5 N5 c5]) (by simp[results,Tryz.results100,go_sem,yc0,yc1,yc2,yc3]) rfl ⟨_,rfl,⟨(-b),⟨_,_,_,_,rfl,by rw[HE.out.1]; exact HF.out.1,HF.out.2.1,by have:=HE.out.2.2; omega⟩,by rw[HE.out.2.1,den,if_neg (by have:=HE.out.2.2; omega)]⟩,HF.out.2.2⟩
     ·rw[ZT hg1] at h3
      simp only[h3]
      clear h3 hg1
      have ya0:=ZI HRC.out.ha 0
      have ya1:=ZI HRC.out.ha 1
      have yb0:=ZI HRC.out.hb 0
      have yb1:=ZI HRC.out.hb 1
      have fa0:=ZF HRC.out.ha 0
      have fa1:=ZF HRC.out.ha 1
      have fb0:=ZF HRC.out.hb 0
      have fb1:=ZF HRC.out.hb 1
      simp at ya0 ya1 yb0 yb1
      have g0:=ZI HKG.out 0
      have g1:=ZI HKG.out 1
      simp at g0 g1
      go_upto_region 5 with fail
      go_wp2_with fail
      refine (DivMod_any HRC.out.ia HIG.out HQ.out.2.1 HQ.out.2.2.1 hk).mono ?_
      rintro e w6 ⟨v6,r6,rfl,hi6,hj6,hb6⟩
      obtain ⟨s6,a6,c6,l6,rfl,-⟩:=int_sign hi6
      obtain ⟨s7,a7,c7,l7,rfl,-⟩:=int_sign hj6
      generalize l6.length=N6 at *
      generalize l7.length=N7 at *
      clear ya0 ya1 yb0 yb1 fa0 fa1 fb0 fb1 g0 g1
      have HRD:=ZH (HRC.out.later hb6)
      have HRE:=ZH ((HRC.out.later hb6).setA hi6 n2 n3 HGa.out)
      have hkg:=(hb6.block bg (ZL HKG.out)).trans HKG.out
      have HIG6:=ZH ((HIG.out.below hb6).pair HRD.out.ha (.bool s6) (.slice a6 N6 c6))
      have hkg2:=(pair_other (w:=w6) (b:=ba) (c:=bg) (fun h=>HNG.out.1 h.symm) (.bool s6) (.slice a6 N6 c6)).trans hkg
      clear hi6 hj6 hb6 hkg
      have ya0:=ZI HRD.out.ha 0
      have ya1:=ZI HRD.out.ha 1
      have yb0:=ZI HRD.out.hb 0
      have yb1:=ZI HRD.out.hb 1
      have fa0:=ZF HRD.out.ha 0
      have fa1:=ZF HRD.out.ha 1
      have fb0:=ZF HRD.out.hb 0
      have fb1:=ZF HRD.out.hb 1
      simp at ya0 ya1 yb0 yb1
      go_upto_region 6 with fail
      clear ya0 ya1 yb0 yb1 fa0 fa1 fb0 fb1
      generalize ((w6.setCell ⟨ba,0,none⟩ (.bool s6)).setCell ⟨ba,1,none⟩ (.slice a6 N6 c6))=w7 at *
      have HKG7:=ZH hkg2
      clear hkg2
      have ya0:=ZI HRE.out.ha 0
      have ya1:=ZI HRE.out.ha 1
      have yb0:=ZI HRE.out.hb 0
      have yb1:=ZI HRE.out.hb 1
      have fa0:=ZF HRE.out.ha 0
      have fa1:=ZF HRE.out.ha 1
      have fb0:=ZF HRE.out.hb 0
      have fb1:=ZF HRE.out.hb 1
      simp at ya0 ya1 yb0 yb1
      have g0:=ZI HKG7.out 0
      have g1:=ZI HKG7.out 1
      simp at g0 g1
      go_wp2_with fail
      refine (DivMod_any HRE.out.ib HIG6.out HQ.out.2.1 HQ.out.2.2.2 hk).mono ?_
      rintro e w8 ⟨v8,r8,rfl,hi8,hj8,hb8⟩
      obtain ⟨s8,a8,c8,l8,rfl,-⟩:=int_sign hi8
      obtain ⟨s9,a9,c9,l9,rfl,-⟩:=int_sign hj8
      generalize l8.length=N8 at *
      generalize l9.length=N9 at *
      clear ya0 ya1 yb0 yb1 fa0 fa1 fb0 fb1 g0 g1
      have HRF:=ZH (HRE.out.later hb8)
      have HRG:=ZH ((HRE.out.later hb8).setB hi8 n1 n4 HGb.out)
      clear hi8 hj8 hb8
      have ya0:=ZI HRF.out.ha 0
      have ya1:=ZI HRF.out.ha 1
      have yb0:=ZI HRF.out.hb 0
      have yb1:=ZI HRF.out.hb 1
      have fa0:=ZF HRF.out.ha 0
      have fa1:=ZF HRF.out.ha 1
      have fb0:=ZF HRF.out.hb 0
      have fb1:=ZF HRF.out.hb 1
      simp at ya0 ya1 yb0 yb1
      go_upto_region 7 with fail
      clear ya0 ya1 yb0 yb1 fa0 fa1 fb0 fb1
      generalize ((w8.setCell ⟨bb,0,none⟩ (.bool s8)).setCell ⟨bb,1,none⟩ (.slice a8 N8 c8))=w9 at *
      have ya0:=ZI HRG.out.ha 0
      have ya1:=ZI HRG.out.ha 1
      have yb0:=ZI HRG.out.hb 0
      have yb1:=ZI HRG.out.hb 1
      have fa0:=ZF HRG.out.ha 0
      have fa1:=ZF HRG.out.ha 1
      have fb0:=ZF HRG.out.hb 0
      have fb1:=ZF HRG.out.hb 1
      simp at ya0 ya1 yb0 yb1
      have yc0:=ZI HRG.out.hc 0
      have yc1:=ZI HRG.out.hc 1
      have yc2:=ZI HRG.out.hc 2
      have yc3:=ZI HRG.out.hc 3
      have fc0:=ZF HRG.out.hc 0
      have fc1:=ZF HRG.out.hc 1
      have fc2:=ZF HRG.out.hc 2
      have fc3:=ZF HRG.out.hc 3
      simp at yc0 yc1 yc2 yc3
      have i1:=HRG.out.ia.store4 HRG.out.hc (.bool s6) (.slice a6 N6 c6) (.bool s8) (.slice a8 N8 c8)
      have i2:=HRG.out.ib.store4 HRG.out.hc (.bool s6) (.slice a6 N6 c6) (.bool s8) (.slice a8 N8 c8)
      have hbf:=(((HRG.out.below.setCell (p:=⟨bc,0,none⟩) HGbc.out (.bool s6)).setCell (p:=⟨bc,1,none⟩) HGbc.out (.slice a6 N6 c6)).setCell (p:=⟨bc,2,none⟩) HGbc.out (.bool s8)).setCell (p:=⟨bc,3,none⟩) HGbc.out (.slice a8 N8 c8)
      have HF:=ZH (ZN i1 (ZN i2 hbf))
      clear i1 i2 hbf
      go_wp2_with fail
      refine bodyPost_ret (v:=.agg #[.bool s6,.slice a6 N6 c6,.bool s8,.slice a8 N8 c8]) (by simp[results,Tryz.results100,go_sem,yc0,yc1,yc2,yc3]) rfl ⟨_,rfl,⟨q2,⟨_,_,_,_,rfl,by rw[HE.out.1]; exact HF.out.1,HF.out.2.1,by have:=HE.out.2.2; omega⟩,by rw[HE.out.2.1,den,if_neg (by have:=HE.out.2.2; omega)]⟩,HF.out.2.2⟩
  ·rw[ZU hneg] at h2
   simp only[h2]
   obtain ⟨w1,e1⟩:∃w1,w1=w':=⟨_,rfl⟩
   rw[←e1] at hw⊢
   have HR1:=ZH (HR.out.later hw)
   have HP:=ZH (show 0<b∧Rat.divInt a b=Rat.divInt a b from ⟨by omega,rfl⟩)
   clear h2 e1 hw hb hneg
   obtain ⟨G,p2,q2,hG,hG0,hpG,hqG⟩:=gcd_parts (p:=a) (q:=b) HP.out.1
   obtain ⟨e1,e2⟩:=divInt_norm HP.out.1 hG hpG hqG
   rw[←HP.out.2] at e1 e2
   have hq20:0<q2:=by
    by_cases h:0<q2
    ·exact h
    ·exfalso
     have h2:=Int.mul_le_mul_of_nonneg_right (show q2≤0 by omega) (show 0≤G by omega)
     rw[Int.zero_mul,←hqG] at h2
     have:=HP.out.1
     omega
   have HE:=ZH (show (Rat.divInt a b).num=p2∧((Rat.divInt a b).den:Int)=q2∧0<q2 from ⟨e1,e2,hq20⟩)
   have HQ:=ZH (ZN hG (ZN hG0 (ZN hpG hqG)))
   clear hG hG0 hpG hqG e1 e2 hq20
   have ya0:=ZI HR1.out.ha 0
   have ya1:=ZI HR1.out.ha 1
   have yb0:=ZI HR1.out.hb 0
   have yb1:=ZI HR1.out.hb 1
   have fa0:=ZF HR1.out.ha 0
   have fa1:=ZF HR1.out.ha 1
   have fb0:=ZF HR1.out.hb 0
   have fb1:=ZF HR1.out.hb 1
   simp at ya0 ya1 yb0 yb1
   go_upto_region 3 with fail
   go_wp2_with fail
   refine (Gcd_any HR1.out.ia HR1.out.ib hk).mono ?_
   rintro e w3 ⟨vg,rfl,hg3,hb3⟩
   rw[←HQ.out.1] at hg3
   obtain ⟨sg,ag,cg,lg,rfl,-⟩:=int_sign hg3
   generalize lg.length=NG at *
   clear ya0 ya1 yb0 yb1 fa0 fa1 fb0 fb1
   go_upto_region 4 with fail
   obtain ⟨bg,hbg⟩:∃b,b=w3.heap.size:=⟨_,rfl⟩
   have kg:=ZW w3 (.cells #[.bool sg,.slice ag NG cg] 45)
   have hb4:Below w3.heap.size w3 (w3.alloc (.cells #[.bool sg,.slice ag NG cg] 45)):=(ZR _ w3).alloc (Nat.le_refl _) _
   rw[←hbg] at kg
   rw[←hbg]
   have h3:=(HR1.out.later hb3).later hb4
   have h5:=hg3.below hb4
   have hne:ba≠bg∧bb≠bg∧bc≠bg:=by
    have e1:=ZL (HR1.out.later hb3).ha
    have e2:=ZL (HR1.out.later hb3).hb
    have e3:=ZL (HR1.out.later hb3).hc
    omega
   generalize w3.alloc (.cells #[.bool sg,.slice ag NG cg] 45)=w4 at *
   have HRB:=ZH h3
   have HBbg:=ZH kg
   have HIg:=ZH h5
   have HW4:=ZH (ZR w4.heap.size w4)
   have HNG:=ZH hne
   clear hb3 hb4 hg3 hbg h3 h5 kg hne
   refine wp_region_flow [0,1,2,3] 4 (fun i v w'=>match i with
    | 0=>v=.agg #[.bool sg,.slice ag NG cg]
    | 1=>IntIn w' v 1 2
    | 2=>v=.int .i64 (cmpI G 1)
    | _=>v=.bool (decide (G≠1))) rfl rfl (by kernel_rfl) (by kernel_rfl) ?st ?steps ?fin
   case st=>
    intro i v w1 w2 h hb
    match i with
    | 0 | 2 | _+3=>exact h
    | 1=>exact (show IntIn w1 v 1 2 from h).below hb
   case steps=>
    refine Steps.cons (Step.of rfl ?s0) (Steps.cons (Step.of rfl ?s1) (Steps.cons (Step.of rfl ?s2) (Steps.cons (Step.of rfl ?s3) Steps.nil)))
    case s0=>
     intro xs w' hb hT K hK
     clear hT
     simp only[zLd,zLe,putAll,zAp,zLa,zLb,zLc,Nat.reduceAdd,zNz] at hK⊢
     have hw:=Flow.hwD HW4.out hb
     have kb:=(hw.block bg (ZL HBbg.out)).trans HBbg.out
     have y0:=ZI kb 0
     have y1:=ZI kb 1
     clear kb
     simp at y0 y1
     go_simp
     exact hK _ _ (ZR _ _) rfl
    case s1=>
     intro xs w' hb hT K hK
     clear hT
     simp only[zLd,zLe,putAll,zAp,zLa,zLb,zLc,Nat.reduceAdd,zNz] at hK⊢
     have hw:=Flow.hwD HW4.out hb
     go_simp
     go_at_call 111
     refine (one_any _).mono ?_
     rintro e w3 ⟨v3,rfl,hi3,hb3⟩
     exact hK _ _ hb3 hi3
    case s2=>
     intro xs w' hb hT K hK
     have h0:(xs 0)=.agg #[.bool sg,.slice ag NG cg]:=hT 0 (by kernel_rfl)
     have h1:IntIn w' (xs 1) 1 2:=hT 1 (by kernel_rfl)
     clear hT
     simp only[zLd,zLe,putAll,zAp,zLa,zLb,zLc,Nat.reduceAdd,zNz] at hK⊢
     have hw:=Flow.hwD HW4.out hb
     (try simp only[h0] at hK)
     go_simp
     go_at_call 106
     refine (Compare_any (HIg.out.below hw) h1).mono ?_
     rintro e w3 ⟨rfl,hb3⟩
     exact hK _ _ hb3 rfl
    case s3=>
     intro xs w' hb hT K hK
     have h2:(xs 2)=.int .i64 (cmpI G 1):=hT 2 (by kernel_rfl)
     clear hT
     simp only[zLd,zLe,putAll,zAp,zLa,zLb,zLc,Nat.reduceAdd,zNz] at hK⊢
     have hw:=Flow.hwD HW4.out hb
     (try simp only[h2] at hK)
     go_simp
     exact hK _ _ (ZR _ _) (by rw[cmp_nez])
   case fin=>
    intro xs w' hb hT
    have hw:=Flow.hwD HW4.out hb
    have h3:(xs 3)=.bool (decide (G≠1)):=hT 3 (by omega)
    clear hT
    simp only[zLd,zLe,putAll,zAp,zLa,zLb,zLc,Nat.reduceAdd,zNz]
    refine wpAny_done (by kernel_rfl) ?_ _
    obtain ⟨w5,e5⟩:∃w5,w5=w':=⟨_,rfl⟩
    rw[←e5] at hw⊢
    have HRC:=ZH (HRB.out.later hw)
    have hkg:=(hw.block bg (ZL HBbg.out)).trans HBbg.out
    have HKG:=ZH hkg
    have HIG:=ZH (HIg.out.below hw)
    clear e5 hw hb hkg
    by_cases hg1:G=1
    ·rw[ZU (show ¬G≠1 from fun h=>h hg1)] at h3
     simp only[h3]
     clear h3
     have hpe:a=p2:=by rw[HQ.out.2.2.1,hg1,Int.mul_one]
     have hqe:b=q2:=by rw[HQ.out.2.2.2,hg1,Int.mul_one]
     have HE2:=HE
     rw[←hpe,←hqe] at HE
     clear HE2 hpe hqe hg1
     have ya0:=ZI HRC.out.ha 0
     have ya1:=ZI HRC.out.ha 1
     have yb0:=ZI HRC.out.hb 0
     have yb1:=ZI HRC.out.hb 1
     have fa0:=ZF HRC.out.ha 0
     have fa1:=ZF HRC.out.ha 1
     have fb0:=ZF HRC.out.hb 0
     have fb1:=ZF HRC.out.hb 1
     simp at ya0 ya1 yb0 yb1
     have yc0:=ZI HRC.out.hc 0
     have yc1:=ZI HRC.out.hc 1
     have yc2:=ZI HRC.out.hc 2
     have yc3:=ZI HRC.out.hc 3
     have fc0:=ZF HRC.out.hc 0
     have fc1:=ZF HRC.out.hc 1
     have fc2:=ZF HRC.out.hc 2
     have fc3:=ZF HRC.out.hc 3
     simp at yc0 yc1 yc2 yc3
     have i1:=HRC.out.ia.store4 HRC.out.hc (.bool na) (.slice ao NA ca) (.bool nb) (.slice bo NB cb)
     have i2:=HRC.out.ib.store4 HRC.out.hc (.bool na) (.slice ao NA ca) (.bool nb) (.slice bo NB cb)
     have hbf:=(((HRC.out.below.setCell (p:=⟨bc,0,none⟩) HGbc.out (.bool na)).setCell (p:=⟨bc,1,none⟩) HGbc.out (.slice ao NA ca)).setCell (p:=⟨bc,2,none⟩) HGbc.out (.bool nb)).setCell (p:=⟨bc,3,none⟩) HGbc.out (.slice bo NB cb)
     have HF:=ZH (ZN i1 (ZN i2 hbf))
     clear i1 i2 hbf
     go_wp2_with fail
     refine bodyPost_ret (v:=.agg #[.bool na,.slice ao NA ca,.bool nb,.slice bo NB cb]) (by simp[results,Tryz.results100,go_sem,yc0,yc1,yc2,yc3]) rfl ⟨_,rfl,⟨b,⟨_,_,_,_,rfl,by rw[HE.out.1]; exact HF.out.1,HF.out.2.1,by have:=HE.out.2.2; omega⟩,by rw[HE.out.2.1,den,if_neg (by have:=HE.out.2.2; omega)]⟩,HF.out.2.2⟩
    ·rw[ZT hg1] at h3
     simp only[h3]
     clear h3 hg1
     have ya0:=ZI HRC.out.ha 0
     have ya1:=ZI HRC.out.ha 1
     have yb0:=ZI HRC.out.hb 0
     have yb1:=ZI HRC.out.hb 1
     have fa0:=ZF HRC.out.ha 0
     have fa1:=ZF HRC.out.ha 1
     have fb0:=ZF HRC.out.hb 0
     have fb1:=ZF HRC.out.hb 1
     simp at ya0 ya1 yb0 yb1
     have g0:=ZI HKG.out 0
     have g1:=ZI HKG.out 1
     simp at g0 g1
     go_upto_region 5 with fail
     go_wp2_with fail
     refine (DivMod_any HRC.out.ia HIG.out HQ.out.2.1 HQ.out.2.2.1 hk).mono ?_
     rintro e w6 ⟨v6,r6,rfl,hi6,hj6,hb6⟩
     obtain ⟨s6,a6,c6,l6,rfl,-⟩:=int_sign hi6
     obtain ⟨s7,a7,c7,l7,rfl,-⟩:=int_sign hj6
     generalize l6.length=N6 at *
     generalize l7.length=N7 at *
     clear ya0 ya1 yb0 yb1 fa0 fa1 fb0 fb1 g0 g1
     have HRD:=ZH (HRC.out.later hb6)
     have HRE:=ZH ((HRC.out.later hb6).setA hi6 n2 n3 HGa.out)
     have hkg:=(hb6.block bg (ZL HKG.out)).trans HKG.out
     have HIG6:=ZH ((HIG.out.below hb6).pair HRD.out.ha (.bool s6) (.slice a6 N6 c6))
     have hkg2:=(pair_other (w:=w6) (b:=ba) (c:=bg) (fun h=>HNG.out.1 h.symm) (.bool s6) (.slice a6 N6 c6)).trans hkg
     clear hi6 hj6 hb6 hkg
     have ya0:=ZI HRD.out.ha 0
     have ya1:=ZI HRD.out.ha 1
     have yb0:=ZI HRD.out.hb 0
     have yb1:=ZI HRD.out.hb 1
     have fa0:=ZF HRD.out.ha 0
     have fa1:=ZF HRD.out.ha 1
     have fb0:=ZF HRD.out.hb 0
     have fb1:=ZF HRD.out.hb 1
     simp at ya0 ya1 yb0 yb1
     go_upto_region 6 with fail
     clear ya0 ya1 yb0 yb1 fa0 fa1 fb0 fb1
     generalize ((w6.setCell ⟨ba,0,none⟩ (.bool s6)).setCell ⟨ba,1,none⟩ (.slice a6 N6 c6))=w7 at *
     have HKG7:=ZH hkg2
     clear hkg2
     have ya0:=ZI HRE.out.ha 0
     have ya1:=ZI HRE.out.ha 1
     have yb0:=ZI HRE.out.hb 0
     have yb1:=ZI HRE.out.hb 1
     have fa0:=ZF HRE.out.ha 0
     have fa1:=ZF HRE.out.ha 1
     have fb0:=ZF HRE.out.hb 0
     have fb1:=ZF HRE.out.hb 1
     simp at ya0 ya1 yb0 yb1
     have g0:=ZI HKG7.out 0
     have g1:=ZI HKG7.out 1
     simp at g0 g1
     go_wp2_with fail
     refine (DivMod_any HRE.out.ib HIG6.out HQ.out.2.1 HQ.out.2.2.2 hk).mono ?_
     rintro e w8 ⟨v8,r8,rfl,hi8,hj8,hb8⟩
     obtain ⟨s8,a8,c8,l8,rfl,-⟩:=int_sign hi8
     obtain ⟨s9,a9,c9,l9,rfl,-⟩:=int_sign hj8
     generalize l8.length=N8 at *
     generalize l9.length=N9 at *
     clear ya0 ya1 yb0 yb1 fa0 fa1 fb0 fb1 g0 g1
     have HRF:=ZH (HRE.out.later hb8)
     have HRG:=ZH ((HRE.out.later hb8).setB hi8 n1 n4 HGb.out)
     clear hi8 hj8 hb8
     have ya0:=ZI HRF.out.ha 0
     have ya1:=ZI HRF.out.ha 1
     have yb0:=ZI HRF.out.hb 0
     have yb1:=ZI HRF.out.hb 1
     have fa0:=ZF HRF.out.ha 0
     have fa1:=ZF HRF.out.ha 1
     have fb0:=ZF HRF.out.hb 0
     have fb1:=ZF HRF.out.hb 1
     simp at ya0 ya1 yb0 yb1
     go_upto_region 7 with fail
     clear ya0 ya1 yb0 yb1 fa0 fa1 fb0 fb1
     generalize ((w8.setCell ⟨bb,0,none⟩ (.bool s8)).setCell ⟨bb,1,none⟩ (.slice a8 N8 c8))=w9 at *
     have ya0:=ZI HRG.out.ha 0
     have ya1:=ZI HRG.out.ha 1
     have yb0:=ZI HRG.out.hb 0
     have yb1:=ZI HRG.out.hb 1
     have fa0:=ZF HRG.out.ha 0
     have fa1:=ZF HRG.out.ha 1
     have fb0:=ZF HRG.out.hb 0
     have fb1:=ZF HRG.out.hb 1
     simp at ya0 ya1 yb0 yb1
     have yc0:=ZI HRG.out.hc 0
     have yc1:=ZI HRG.out.hc 1
     have yc2:=ZI HRG.out.hc 2
     have yc3:=ZI HRG.out.hc 3
     have fc0:=ZF HRG.out.hc 0
     have fc1:=ZF HRG.out.hc 1
     have fc2:=ZF HRG.out.hc 2
     have fc3:=ZF HRG.out.hc 3
     simp at yc0 yc1 yc2 yc3
     have i1:=HRG.out.ia.store4 HRG.out.hc (.bool s6) (.slice a6 N6 c6) (.bool s8) (.slice a8 N8 c8)
     have i2:=HRG.out.ib.store4 HRG.out.hc (.bool s6) (.slice a6 N6 c6) (.bool s8) (.slice a8 N8 c8)
     have hbf:=(((HRG.out.below.setCell (p:=⟨bc,0,none⟩) HGbc.out (.bool s6)).setCell (p:=⟨bc,1,none⟩) HGbc.out (.slice a6 N6 c6)).setCell (p:=⟨bc,2,none⟩) HGbc.out (.bool s8)).setCell (p:=⟨bc,3,none⟩) HGbc.out (.slice a8 N8 c8)
     have HF:=ZH (ZN i1 (ZN i2 hbf))
     clear i1 i2 hbf
     go_wp2_with fail
     refine bodyPost_ret (v:=.agg #[.bool s6,.slice a6 N6 c6,.bool s8,.slice a8 N8 c8]) (by simp[results,Tryz.results100,go_sem,yc0,yc1,yc2,yc3]) rfl ⟨_,rfl,⟨q2,⟨_,_,_,_,rfl,by rw[HE.out.1]; exact HF.out.1,HF.out.2.1,by have:=HE.out.2.2; omega⟩,by rw[HE.out.2.1,den,if_neg (by have:=HE.out.2.2; omega)]⟩,HF.out.2.2⟩
theorem add_is (r s:Rat):r+s=Rat.divInt (r.num*s.den+s.num*r.den) (r.den*s.den):=by
 have h1:(r.den:Int)≠0:=by have:=r.den_nz; omega
 have h2:(s.den:Int)≠0:=by have:=s.den_nz; omega
 rw[←Rat.divInt_add_divInt _ _ h1 h2,Rat.num_divInt_den,Rat.num_divInt_den]
theorem mul_is (r s:Rat):r*s=Rat.divInt (r.num*s.num) (r.den*s.den):=by
 rw[←Rat.divInt_mul_divInt,Rat.num_divInt_den,Rat.num_divInt_den]
theorem div_is (r s:Rat):r/s=Rat.divInt (r.num*s.den) (r.den*s.num):=by
 rw[Rat.div_def,←Rat.divInt_mul_divInt,Rat.num_divInt_den,←Rat.inv_divInt,Rat.num_divInt_den]
theorem int_is {r:Rat} (h:isInt r=true):r=(r.num:Rat):=by
 unfold isInt at h
 rw[beq_iff_eq] at h
 apply Rat.ext
 ·simp
 ·simp[h]
def cmpQ (r s:Rat):Int:=if r<s then -1 else if s<r then 1 else 0
theorem cmp_rat (r s:Rat):cmpI (r.num*s.den) (s.num*r.den)=cmpQ r s:=by
 unfold cmpI cmpQ
 simp only[Rat.lt_iff]
theorem cmp_ints {r s:Rat} (h:(isInt r&&isInt s)=true):cmpI r.num s.num=cmpQ r s:=by
 unfold isInt at h
 rw[Bool.and_eq_true,beq_iff_eq,beq_iff_eq] at h
 rw[←cmp_rat,h.1,h.2]
 simp
theorem add_ints {r s:Rat} (h:(isInt r&&isInt s)=true):r+s=((r.num+s.num:Int):Rat):=by
 rw[Bool.and_eq_true] at h
 rw[Rat.intCast_add,←int_is h.1,←int_is h.2]
theorem mul_ints {r s:Rat} (h:(isInt r&&isInt s)=true):r*s=((r.num*s.num:Int):Rat):=by
 rw[Bool.and_eq_true] at h
 rw[Rat.intCast_mul,←int_is h.1,←int_is h.2]
theorem den_pos (r s:Rat):(r.den:Int)*s.den≠0:=by
 have h1:(r.den:Int)≠0:=by have:=r.den_nz; omega
 have h2:(s.den:Int)≠0:=by have:=s.den_nz; omega
 exact Int.mul_ne_zero h1 h2
theorem rt_shape {w:World} {v:Value} {r:Rat} {k:Nat} (h:RtIn w v r k):∃s1 a1 c1 l1 s2 a2 c2 l2,v=.agg #[.bool s1,.slice a1 c1 l1,.bool s2,.slice a2 c2 l2]:=by
 obtain ⟨q,⟨n1,m1,n2,m2,rfl,h1,h2,-⟩,-⟩:=h
 obtain ⟨_,a1,c1,l1,e1,-⟩:=int_sign h1
 obtain ⟨_,a2,c2,l2,e2,-⟩:=int_sign h2
 simp at e1 e2
 exact ⟨n1,a1,_,c1,n2,a2,_,c2,by rw[e1.2,e2.2]⟩
theorem RtIn.store4 {w:World} {bc:Nat} {t:TypeId} {v:Value} {r:Rat} {k:Nat} (h:RtIn w v r k) (hb:w.heap[bc]?=some (.cells #[.bool false,.slice none 0 0,.bool false,.slice none 0 0] t (0,0))) (u0 u1 u2 u3:Value):RtIn ((((w.setCell ⟨bc,0,none⟩ u0).setCell ⟨bc,1,none⟩ u1).setCell ⟨bc,2,none⟩ u2).setCell ⟨bc,3,none⟩ u3) v r k:=by
 obtain ⟨q,⟨n1,m1,n2,m2,e,h1,h2,h3⟩,h4⟩:=h
 exact ⟨q,⟨n1,m1,n2,m2,e,h1.store4 hb u0 u1 u2 u3,h2.store4 hb u0 u1 u2 u3,h3⟩,h4⟩
theorem rt_of_int {w:World} {v:Value} {z:Int} {k:Nat} (h:IntIn w v z k):∃s a n c,v=.agg #[.bool s,.slice a n c]∧RtIn w (.agg #[.bool s,.slice a n c,.bool false,.slice none 0 0]) (z:Rat) k:=by
 obtain ⟨s,a,c,l,rfl,-⟩:=int_sign h
 exact ⟨s,a,_,c,rfl,0,⟨_,_,_,_,rfl,by simpa using h,int_nil w k,Int.le_refl _⟩,by simp[den]⟩
theorem ratCompare_any {w:World} {va vb:Value} {r s:Rat} {k m:Nat} (ha:RtIn w va r k) (hb:RtIn w vb s m) (hk:2≤k) (hm:2≤m) (hkm:k+m≤900000):Calls Tryz.prog 71 #[va,vb] w fun e w'=>e=.returned (.int .i64 (cmpQ r s))∧Below w.heap.size w w':=by
 obtain ⟨qa,⟨na1,ma1,na2,ma2,rfl,hna,hda,hqa⟩,hqda⟩:=ha
 obtain ⟨qb,⟨nb1,mb1,nb2,mb2,rfl,hnb,hdb,hqb⟩,hqdb⟩:=hb
 obtain ⟨wa,hwa⟩:∃wa,wa=(w.alloc (.cells #[.bool na1,ma1,.bool na2,ma2] 47)).alloc (.cells #[.bool nb1,mb1,.bool nb2,mb2] 47):=⟨_,rfl⟩
 obtain ⟨ba,hba⟩:∃b,b=w.heap.size:=⟨_,rfl⟩
 obtain ⟨bb,hbb⟩:∃b,b=w.heap.size+1:=⟨_,rfl⟩
 have hal:Below w.heap.size w wa:=by rw[hwa]; exact ((ZR _ w).alloc (Nat.le_refl _) _).alloc (by simp) _
 obtain ⟨k0,k1⟩:=two_made w #[.bool na1,ma1,.bool na2,ma2] #[.bool nb1,mb1,.bool nb2,mb2] 47 47
 rw[←hwa,←hba] at k0
 rw[←hwa,←hbb] at k1
 have HBba:=ZH k0
 have HBbb:=ZH k1
 have HAL:=ZH hal
 have HW0:=ZH (ZR wa.heap.size wa)
 have HW:=ZH (ZN hwa (ZN hba hbb))
 have HRa:=ZH (show RtIn wa (.agg #[.bool na1,ma1,.bool na2,ma2]) r k from ⟨qa,⟨_,_,_,_,rfl,hna.below hal,hda.below hal,hqa⟩,hqda⟩)
 have HNa:=ZH (hna.below hal)
 clear hna hda hqa hqda
 have HRb:=ZH (show RtIn wa (.agg #[.bool nb1,mb1,.bool nb2,mb2]) s m from ⟨qb,⟨_,_,_,_,rfl,hnb.below hal,hdb.below hal,hqb⟩,hqdb⟩)
 have HNb:=ZH (hnb.below hal)
 clear hnb hdb hqb hqdb
 clear hal hwa hba hbb k0 k1
 go_enter Tryz.func71,Tryz.ntmps71
 go_upto_region 1 with fail
 rw[←HW.out.1,←HW.out.2.2,←HW.out.2.1]
 clear HW
 refine wp_region_seq [0,1,2,3,4,5] 6 (fun i v w'=>match i with
  | 0=>v=.agg #[.bool na1,ma1,.bool na2,ma2]
  | 1=>v=.bool (isInt r)
  | 2=>v=.bool (isInt r)
  | 3=>(isInt r)=true→v=.agg #[.bool nb1,mb1,.bool nb2,mb2]
  | 4=>(isInt r)=true→v=.bool (isInt s)
  | _=>v=.bool ((isInt r)&&(isInt s))) rfl rfl (by kernel_rfl) (by kernel_rfl) ?st ?steps ?fin
 case st=>
  intro i v w1 w2 h hb
  match i with
  | 0 | 1 | 2 | 3 | 4 | _+5=>exact h
 case steps=>
  refine Steps.cons (Step.of rfl ?s0) (Steps.cons (Step.of rfl ?s1) (Steps.cons (Step.of rfl ?s2) (Steps.cons (Step.of rfl ?s3) (Steps.cons (Step.of rfl ?s4) (Steps.cons (Step.of rfl ?s5) Steps.nil)))))
  case s0=>
   intro xs w' hb hT K hK
   clear hT
   simp only[zLd,zLe,putAll,zAp,zLa,zLb,zLc,Nat.reduceAdd,zNz] at hK⊢
   have hw:=Flow.hwP HW0.out hb
   have kb:=(hw.block ba (ZL HBba.out)).trans HBba.out
   have y0:=ZI kb 0
   have y1:=ZI kb 1
   have y2:=ZI kb 2
   have y3:=ZI kb 3
   clear kb
   simp at y0 y1 y2 y3
   go_simp
   exact hK _ _ (ZR _ _) rfl
  case s1=>
   intro xs w' hb hT K hK
   have h0:(xs 0)=.agg #[.bool na1,ma1,.bool na2,ma2]:=hT 0 (by kernel_rfl)
   clear hT
   simp only[zLd,zLe,putAll,zAp,zLa,zLb,zLc,Nat.reduceAdd,zNz] at hK⊢
   have hw:=Flow.hwP HW0.out hb
   (try simp only[h0] at hK)
   go_simp
   go_at_call 78
   refine (rwhole_any (HRa.out.below hw)).mono ?_
   rintro e w3 ⟨rfl,hb3⟩
   exact hK _ _ hb3 rfl
  case s2=>
   intro xs w' hb hT K hK
   have h1:(xs 1)=.bool (isInt r):=hT 1 (by kernel_rfl)
   clear hT
   simp only[zLd,zLe,putAll,zAp,zLa,zLb,zLc,Nat.reduceAdd,zNz] at hK⊢
   have hw:=Flow.hwP HW0.out hb
   (try simp only[h1] at hK)
   go_simp
   exact hK _ _ (ZR _ _) rfl
  case s3=>
   intro xs w' hb hT K hK
   have h2:(xs 2)=.bool (isInt r):=hT 2 (by kernel_rfl)
   clear hT
   simp only[zLd,zLe,putAll,zAp,zLa,zLb,zLc,Nat.reduceAdd,zNz] at hK⊢
   have hw:=Flow.hwP HW0.out hb
   by_cases hg:(isInt r)=true
   ·rw[hg] at h2
    have kb:=(hw.block bb (ZL HBbb.out)).trans HBbb.out
    have y0:=ZI kb 0
    have y1:=ZI kb 1
    have y2:=ZI kb 2
    have y3:=ZI kb 3
    clear kb
    simp at y0 y1 y2 y3
    (try simp only[h2] at hK)
    go_simp
    exact hK _ _ (ZR _ _) (fun _=>rfl)
   ·have hg':(isInt r)=false:=by simpa using hg
    rw[hg'] at h2
    (try simp only[h2] at hK)
    go_simp
    exact hK _ _ (ZR _ _) (fun h=>absurd h hg)
  case s4=>
   intro xs w' hb hT K hK
   have h2:(xs 2)=.bool (isInt r):=hT 2 (by kernel_rfl)
   have h3:(isInt r)=true→(xs 3)=.agg #[.bool nb1,mb1,.bool nb2,mb2]:=hT 3 (by kernel_rfl)
   clear hT
   simp only[zLd,zLe,putAll,zAp,zLa,zLb,zLc,Nat.reduceAdd,zNz] at hK⊢
   have hw:=Flow.hwP HW0.out hb
   by_cases hg:(isInt r)=true
   ·rw[hg] at h2
    replace h3:=h3 hg
    (try simp only[h2] at hK)
    (try simp only[h3] at hK)
    go_simp
    go_at_call 78
    refine (rwhole_any (HRb.out.below hw)).mono ?_
    rintro e w3 ⟨rfl,hb3⟩
    exact hK _ _ hb3 (fun _=>rfl)
   ·have hg':(isInt r)=false:=by simpa using hg
    rw[hg'] at h2
    (try simp only[h2] at hK)
    clear h3
    go_simp
    exact hK _ _ (ZR _ _) (fun h=>absurd h hg)
  case s5=>
   intro xs w' hb hT K hK
   have h2:(xs 2)=.bool (isInt r):=hT 2 (by kernel_rfl)
   have h4:(isInt r)=true→(xs 4)=.bool (isInt s):=hT 4 (by kernel_rfl)
   clear hT
   simp only[zLd,zLe,putAll,zAp,zLa,zLb,zLc,Nat.reduceAdd,zNz] at hK⊢
   have hw:=Flow.hwP HW0.out hb
   by_cases hg:(isInt r)=true
   ·rw[hg] at h2
    replace h4:=h4 hg
    (try simp only[h2] at hK)
    (try simp only[h4] at hK)
    go_simp
    exact hK _ _ (ZR _ _) (by simp[ hg])
   ·have hg':(isInt r)=false:=by simpa using hg
    rw[hg'] at h2
    clear h4
    (try simp only[h2] at hK)
    go_simp
    exact hK _ _ (ZR _ _) (by simp[ hg'])
 case fin=>
  intro xs w' hb hT
  have hw:=Flow.hwP HW0.out hb
  have h5:(xs 5)=.bool ((isInt r)&&(isInt s)):=hT 5 (by omega)
  clear hT
  simp only[zLd,zLe,putAll,zAp,zLa,zLb,zLc,Nat.reduceAdd,zNz,List.drop_succ_cons,List.drop_zero]
  by_cases hc:(isInt r&&isInt s)=true
  ·rw[hc] at h5
   simp only[h5]
   clear h5
   refine wpList_nil ?_
   obtain ⟨w1,e1⟩:∃w1,w1=w':=⟨_,rfl⟩
   rw[←e1] at hw⊢
   have HW1:=ZH hw
   clear hb hw e1
   have HC:=ZH (cmp_ints hc)
   clear hc
   go_upto_region 2 with fail
   refine wp_region_seq [0,1,2,3,4,5] 6 (fun i v w'=>match i with
    | 0=>v=.pointer (some ⟨ba,0,none⟩)
    | 1=>v=.agg #[.bool na1,ma1]
    | 2=>v=.pointer (some ⟨bb,0,none⟩)
    | 3=>v=.agg #[.bool nb1,mb1]
    | 4=>v=.int .i64 (cmpQ r s)
    | _=>v=.int .i64 (cmpQ r s)) rfl rfl (by kernel_rfl) (by kernel_rfl) ?st ?steps ?fin
   case st=>
    intro i v w1 w2 h hb
    match i with
    | 0 | 1 | 2 | 3 | 4 | _+5=>exact h
   case steps=>
    refine Steps.cons (Step.of rfl ?s0) (Steps.cons (Step.of rfl ?s1) (Steps.cons (Step.of rfl ?s2) (Steps.cons (Step.of rfl ?s3) (Steps.cons (Step.of rfl ?s4) (Steps.cons (Step.of rfl ?s5) Steps.nil)))))
    case s0 | s2=>
     intro xs w' hb hT K hK
     clear hT
     simp only[zLd,zLe,putAll,zAp,zLa,zLb,zLc,Nat.reduceAdd,zNz] at hK⊢
     have hw:=Flow.hwP HW1.out hb
     go_simp
     exact hK _ _ (ZR _ _) rfl
    case s1=>
     intro xs w' hb hT K hK
     have h0:(xs 0)=.pointer (some ⟨ba,0,none⟩):=hT 0 (by kernel_rfl)
     clear hT
     simp only[zLd,zLe,putAll,zAp,zLa,zLb,zLc,Nat.reduceAdd,zNz] at hK⊢
     have hw:=Flow.hwP HW1.out hb
     have kb:=(hw.block ba (ZL HBba.out)).trans HBba.out
     have y0:=ZI kb 0
     have y1:=ZI kb 1
     clear kb
     simp at y0 y1
     (try simp only[h0] at hK)
     go_simp
     exact hK _ _ (ZR _ _) rfl
    case s3=>
     intro xs w' hb hT K hK
     have h2:(xs 2)=.pointer (some ⟨bb,0,none⟩):=hT 2 (by kernel_rfl)
     clear hT
     simp only[zLd,zLe,putAll,zAp,zLa,zLb,zLc,Nat.reduceAdd,zNz] at hK⊢
     have hw:=Flow.hwP HW1.out hb
     have kb:=(hw.block bb (ZL HBbb.out)).trans HBbb.out
     have y0:=ZI kb 0
     have y1:=ZI kb 1
     clear kb
     simp at y0 y1
     (try simp only[h2] at hK)
     go_simp
     exact hK _ _ (ZR _ _) rfl
    case s4=>
     intro xs w' hb hT K hK
     have h1:(xs 1)=.agg #[.bool na1,ma1]:=hT 1 (by kernel_rfl)
     have h3:(xs 3)=.agg #[.bool nb1,mb1]:=hT 3 (by kernel_rfl)
     clear hT
     simp only[zLd,zLe,putAll,zAp,zLa,zLb,zLc,Nat.reduceAdd,zNz] at hK⊢
     have hw:=Flow.hwP HW1.out hb
     (try simp only[h1] at hK)
     (try simp only[h3] at hK)
     go_simp
     go_at_call 106
     refine (Compare_any (HNa.out.below hw) (HNb.out.below hw)).mono ?_
     rintro e w3 ⟨rfl,hb3⟩
     exact hK _ _ hb3 (by rw[HC.out])
    case s5=>
     intro xs w' hb hT K hK
     have h4:(xs 4)=.int .i64 (cmpQ r s):=hT 4 (by kernel_rfl)
     clear hT
     simp only[zLd,zLe,putAll,zAp,zLa,zLb,zLc,Nat.reduceAdd,zNz] at hK⊢
     have hw:=Flow.hwP HW1.out hb
     (try simp only[h4] at hK)
     go_simp
     exact hK _ _ (ZR _ _) rfl
   case fin=>
    intro xs w' hb hT
    have hw:=Flow.hwP HW1.out hb
    have h5:(xs 5)=.int .i64 (cmpQ r s):=hT 5 (by omega)
    clear hT
    simp only[zLd,zLe,putAll,zAp,zLa,zLb,zLc,Nat.reduceAdd,zNz,List.drop_succ_cons,List.drop_zero]
    simp only[h5]
    clear h5 hb
    refine wpList_nil ?_
    go_wp2_with fail
    go_ret
    exact ⟨rfl,HAL.out.trans (hw.mono HAL.out.size)⟩
  ·have hc':(isInt r&&isInt s)=false:=by simpa using hc
   rw[hc'] at h5
   simp only[h5]
   clear h5
   refine wpList_nil ?_
   obtain ⟨w1,e1⟩:∃w1,w1=w':=⟨_,rfl⟩
   rw[←e1] at hw⊢
   have HW1:=ZH hw
   clear hb hw e1
   clear hc hc'
   go_upto_region 3 with fail
   refine wp_region_flow [0,1,2,3,4,5,6,7,8,9,10,11] 12 (fun i v w'=>match i with
    | 0=>v=.pointer (some ⟨ba,0,none⟩)
    | 1=>v=.agg #[.bool na1,ma1]
    | 2=>v=.agg #[.bool nb1,mb1,.bool nb2,mb2]
    | 3=>IntIn w' v s.den m
    | 4=>IntIn w' v (r.num*s.den) (k+m)
    | 5=>v=.pointer (some ⟨bb,0,none⟩)
    | 6=>v=.agg #[.bool nb1,mb1]
    | 7=>v=.agg #[.bool na1,ma1,.bool na2,ma2]
    | 8=>IntIn w' v r.den k
    | 9=>IntIn w' v (s.num*r.den) (m+k)
    | 10=>v=.int .i64 (cmpQ r s)
    | _=>v=.int .i64 (cmpQ r s)) rfl rfl (by kernel_rfl) (by kernel_rfl) ?st ?steps ?fin
   case st=>
    intro i v w1 w2 h hb
    match i with
    | 0 | 1 | 2 | 5 | 6 | 7 | 10 | _+11=>exact h
    | 3=>exact (show IntIn w1 v s.den m from h).below hb
    | 4=>exact (show IntIn w1 v (r.num*s.den) (k+m) from h).below hb
    | 8=>exact (show IntIn w1 v r.den k from h).below hb
    | 9=>exact (show IntIn w1 v (s.num*r.den) (m+k) from h).below hb
   case steps=>
    refine Steps.cons (Step.of rfl ?s0) (Steps.cons (Step.of rfl ?s1) (Steps.cons (Step.of rfl ?s2) (Steps.cons (Step.of rfl ?s3) (Steps.cons (Step.of rfl ?s4) (Steps.cons (Step.of rfl ?s5) (Steps.cons (Step.of rfl ?s6) (Steps.cons (Step.of rfl ?s7) (Steps.cons (Step.of rfl ?s8) (Steps.cons (Step.of rfl ?s9) (Steps.cons (Step.of rfl ?s10) (Steps.cons (Step.of rfl ?s11) Steps.nil)))))))))))
    case s0 | s5=>
     intro xs w' hb hT K hK
     clear hT
     simp only[zLd,zLe,putAll,zAp,zLa,zLb,zLc,Nat.reduceAdd,zNz] at hK⊢
     have hw:=Flow.hwD HW1.out hb
     go_simp
     exact hK _ _ (ZR _ _) rfl
    case s1=>
     intro xs w' hb hT K hK
     have h0:(xs 0)=.pointer (some ⟨ba,0,none⟩):=hT 0 (by kernel_rfl)
     clear hT
     simp only[zLd,zLe,putAll,zAp,zLa,zLb,zLc,Nat.reduceAdd,zNz] at hK⊢
     have hw:=Flow.hwD HW1.out hb
     have kb:=(hw.block ba (ZL HBba.out)).trans HBba.out
     have y0:=ZI kb 0
     have y1:=ZI kb 1
     clear kb
     simp at y0 y1
     (try simp only[h0] at hK)
     go_simp
     exact hK _ _ (ZR _ _) rfl
    case s2=>
     intro xs w' hb hT K hK
     clear hT
     simp only[zLd,zLe,putAll,zAp,zLa,zLb,zLc,Nat.reduceAdd,zNz] at hK⊢
     have hw:=Flow.hwD HW1.out hb
     have kb:=(hw.block bb (ZL HBbb.out)).trans HBbb.out
     have y0:=ZI kb 0
     have y1:=ZI kb 1
     have y2:=ZI kb 2
     have y3:=ZI kb 3
     clear kb
     simp at y0 y1 y2 y3
     go_simp
     exact hK _ _ (ZR _ _) rfl
    case s3=>
     intro xs w' hb hT K hK
     have h2:(xs 2)=.agg #[.bool nb1,mb1,.bool nb2,mb2]:=hT 2 (by kernel_rfl)
     clear hT
     simp only[zLd,zLe,putAll,zAp,zLa,zLb,zLc,Nat.reduceAdd,zNz] at hK⊢
     have hw:=Flow.hwD HW1.out hb
     (try simp only[h2] at hK)
     go_simp
     go_at_call 102
     refine (Den_any (HRb.out.below hw) hm).mono ?_
     rintro e w3 ⟨v3,rfl,hi3,hb3⟩
     exact hK _ _ hb3 hi3
    case s4=>
     intro xs w' hb hT K hK
     have h1:(xs 1)=.agg #[.bool na1,ma1]:=hT 1 (by kernel_rfl)
     have h3:IntIn w' (xs 3) s.den m:=hT 3 (by kernel_rfl)
     clear hT
     simp only[zLd,zLe,putAll,zAp,zLa,zLb,zLc,Nat.reduceAdd,zNz] at hK⊢
     have hw:=Flow.hwD HW1.out hb
     (try simp only[h1] at hK)
     go_simp
     go_at_call 101
     refine (Mul_any (HNa.out.below hw) h3 hkm).mono ?_
     rintro e w3 ⟨v3,rfl,hi3,hb3⟩
     exact hK _ _ hb3 hi3
    case s6=>
     intro xs w' hb hT K hK
     have h5:(xs 5)=.pointer (some ⟨bb,0,none⟩):=hT 5 (by kernel_rfl)
     clear hT
     simp only[zLd,zLe,putAll,zAp,zLa,zLb,zLc,Nat.reduceAdd,zNz] at hK⊢
     have hw:=Flow.hwD HW1.out hb
     have kb:=(hw.block bb (ZL HBbb.out)).trans HBbb.out
     have y0:=ZI kb 0
     have y1:=ZI kb 1
     clear kb
     simp at y0 y1
     (try simp only[h5] at hK)
     go_simp
     exact hK _ _ (ZR _ _) rfl
    case s7=>
     intro xs w' hb hT K hK
     clear hT
     simp only[zLd,zLe,putAll,zAp,zLa,zLb,zLc,Nat.reduceAdd,zNz] at hK⊢
     have hw:=Flow.hwD HW1.out hb
     have kb:=(hw.block ba (ZL HBba.out)).trans HBba.out
     have y0:=ZI kb 0
     have y1:=ZI kb 1
     have y2:=ZI kb 2
     have y3:=ZI kb 3
     clear kb
     simp at y0 y1 y2 y3
     go_simp
     exact hK _ _ (ZR _ _) rfl
    case s8=>
     intro xs w' hb hT K hK
     have h7:(xs 7)=.agg #[.bool na1,ma1,.bool na2,ma2]:=hT 7 (by kernel_rfl)
     clear hT
     simp only[zLd,zLe,putAll,zAp,zLa,zLb,zLc,Nat.reduceAdd,zNz] at hK⊢
     have hw:=Flow.hwD HW1.out hb
     (try simp only[h7] at hK)
     go_simp
     go_at_call 102
     refine (Den_any (HRa.out.below hw) hk).mono ?_
     rintro e w3 ⟨v3,rfl,hi3,hb3⟩
     exact hK _ _ hb3 hi3
    case s9=>
     intro xs w' hb hT K hK
     have h6:(xs 6)=.agg #[.bool nb1,mb1]:=hT 6 (by kernel_rfl)
     have h8:IntIn w' (xs 8) r.den k:=hT 8 (by kernel_rfl)
     clear hT
     simp only[zLd,zLe,putAll,zAp,zLa,zLb,zLc,Nat.reduceAdd,zNz] at hK⊢
     have hw:=Flow.hwD HW1.out hb
     (try simp only[h6] at hK)
     go_simp
     go_at_call 101
     refine (Mul_any (HNb.out.below hw) h8 (by omega)).mono ?_
     rintro e w3 ⟨v3,rfl,hi3,hb3⟩
     exact hK _ _ hb3 hi3
    case s10=>
     intro xs w' hb hT K hK
     have h4:IntIn w' (xs 4) (r.num*s.den) (k+m):=hT 4 (by kernel_rfl)
     have h9:IntIn w' (xs 9) (s.num*r.den) (m+k):=hT 9 (by kernel_rfl)
     clear hT
     simp only[zLd,zLe,putAll,zAp,zLa,zLb,zLc,Nat.reduceAdd,zNz] at hK⊢
     have hw:=Flow.hwD HW1.out hb
     go_simp
     go_at_call 106
     refine (Compare_any h4 h9).mono ?_
     rintro e w3 ⟨rfl,hb3⟩
     exact hK _ _ hb3 (by rw[cmp_rat])
    case s11=>
     intro xs w' hb hT K hK
     have h10:(xs 10)=.int .i64 (cmpQ r s):=hT 10 (by kernel_rfl)
     clear hT
     simp only[zLd,zLe,putAll,zAp,zLa,zLb,zLc,Nat.reduceAdd,zNz] at hK⊢
     have hw:=Flow.hwD HW1.out hb
     (try simp only[h10] at hK)
     go_simp
     exact hK _ _ (ZR _ _) rfl
   case fin=>
    intro xs w' hb hT
    have hw:=Flow.hwD HW1.out hb
    have h11:(xs 11)=.int .i64 (cmpQ r s):=hT 11 (by omega)
    clear hT
    simp only[zLd,zLe,putAll,zAp,zLa,zLb,zLc,Nat.reduceAdd,zNz]
    simp only[h11]
    clear h11 hb
    refine wpAny_done (by kernel_rfl) ?_ _
    go_wp2_with fail
    go_ret
    exact ⟨rfl,HAL.out.trans (hw.mono HAL.out.size)⟩
end Go.Proofs.YtdcaaehapdhckaaGreatDoor
