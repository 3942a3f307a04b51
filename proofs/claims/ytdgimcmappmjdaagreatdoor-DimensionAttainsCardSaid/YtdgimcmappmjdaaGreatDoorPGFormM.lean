/- The grower's form. -/
import Derived.Test.YtdgimcmappmjdaaGreatDoorPRowM
import Derived.Test.YtdgimcmappmjdaaGreatDoorPFormM
set_option linter.unusedSimpArgs false
set_option linter.unusedVariables false
set_option maxRecDepth 100000
namespace Go.Proofs.YtdgimcmappmjdaaGreatDoor
open List renaming setIfInBounds_toArray → zLa, set_cons_zero → zLb, set_cons_succ → zLc
open FlowR renaming putSel → zFp
open Act renaming put → zAp
open Nat renaming zero_add → zNz
open Go.RowKit Go.Num Go.Flow
open Go.Gx (LF)
set_option maxHeartbeats 8000000
set_option linter.unusedVariables false

def rowTo (d : Nat) (l : List Int) : Nat → List Rat
 | 0 => List.replicate d 0
 | k + 1 => (rowTo d l k).set (headB (l.drop (1 + 2 * k)) % d) (smallQ (l.drop (2 + 2 * k)))
theorem rowTo_len (d : Nat) (l : List Int) : ∀ k, (rowTo d l k).length = d
 | 0 => by rw [rowTo, List.length_replicate]
 | k + 1 => by rw [rowTo, List.length_set, rowTo_len d l k]
theorem drop_tail (l : List Int) (n : Nat) : (l.drop n).tail = l.drop (n + 1) := by rw [List.tail_drop]
theorem pgform_any {w : World} (hg : Glob w) {b : Nat} {l : List Int} {d c : Nat} (h : GrIn w b l d c) (hd0 : 0 < d) (hd : d ≤ 1000) : Calls Tryz.prog 25 #[.pointer (some ⟨b, 0, none⟩)] w fun e w' => ∃ v, e = .returned v ∧ FormIn w' w.heap.size v (numText (growF d l).c) (formTexts (growF d l)) ∧ GrIn w' b (l.drop 5) d c ∧ Gb b w w' := by
 obtain ⟨wa, bc, hwa, hbc, hla, ka⟩ := new_box w #[.string ⟨#[]⟩, .slice none 0 0] 57
 have hha := h.below hla
 obtain ⟨av, cv, h0, -⟩ := id hha
 have y1 := ZI h0 1
 simp at y1
 have HH := ZH hha
 have HG := ZH hg
 have HG0 := ZH h
 have HLA := ZH hla
 have HKA := ZH ka
 have HW := ZH (ZN hwa hbc)
 have HBB := ZH (show b < bc by rw [hbc]; exact h.lt)
 have HBC := ZH (show w.heap.size ≤ bc by omega)
 have HD := ZH (ZN hd0 hd)
 have hmk := run_make_rat d (by omega)
 clear h hla ka hwa hbc hha h0 hg
 go_enter Tryz.func25, Tryz.ntmps25
 go_upto_region 1 with fail
 rw [← HW.out.1, ← HW.out.2]
 clear HW
 go_upto_region 2 with fail
 obtain ⟨w2, hw2⟩ : ∃ x, x = wa.alloc (.cells (madeCells #[.bool false, .slice none 0 0, .bool false, .slice none 0 0] (d * 4)) 43) := ⟨_, rfl⟩
 obtain ⟨bl, hbl⟩ : ∃ x, x = wa.heap.size := ⟨_, rfl⟩
 rw [← hw2, ← hbl]
 have hl2 : Below wa.heap.size wa w2 := by rw [hw2]; exact (ZR _ wa).alloc (Nat.le_refl _) _
 have hr2 : RatRow w2 bl d (rowTo d l 0) 4 := by rw [hw2, hbl]; exact ratrow_zeros wa d 4
 have HL2 := ZH (HLA.out.trans (hl2.mono HLA.out.size))
 have HR2 := ZH hr2
 have HH2 := ZH (HH.out.below hl2)
 have HBL := ZH (show w.heap.size ≤ bl ∧ b < bl by have h1 := HLA.out.size; have h2 := HH.out.lt; omega)
 have HNC := ZH (show bc ≠ bl by have := ZL HKA.out; omega)
 have HKA2 := ZH ((hl2.block bc (ZL HKA.out)).trans HKA.out)
 clear hw2 hbl hl2 hr2 y1 hmk HH
 go_wp2_with fail
 refine (psmall_any HH2.out).mono ?_
 rintro e w3 ⟨v, rfl, hv, hg3, hgb3⟩
 obtain ⟨q1, a1, c1, l1, q2, a2, c2, l2, rfl⟩ := rt_shape hv
 obtain ⟨w4, bs, hw4, hbs, hl4, k4⟩ := new_box w3 #[.bool q1, .slice a1 c1 l1, .bool q2, .slice a2 c2 l2] 43
 have HW4 := ZH (ZN hw4 hbs)
 have HS := ZH (show RatRow w4 bl d (rowTo d l 0) 4 ∧ GrIn w4 b (l.drop (1 + 2 * 0)) d c ∧ w4.heap[bs]? = some (.cells #[.bool q1, .slice a1 c1 l1, .bool q2, .slice a2 c2 l2] 43 (0, 0)) ∧ RtIn w4 (.agg #[.bool q1, .slice a1 c1 l1, .bool q2, .slice a2 c2 l2]) (smallQ l) 4 ∧ w4.heap[bc]? = some (.cells #[.string ⟨#[]⟩, .slice none 0 0] 57 (0, 0)) ∧ Gb b w w4 from
  ⟨(HR2.out.but (by have := HBL.out; omega) (gr_nodig HH2.out) hgb3.but).below hl4, by have h := hg3.below hl4; rw [← List.drop_one] at h; exact h, k4, hv.below hl4, (hl4.block bc (Nat.lt_of_lt_of_le (ZL HKA2.out) hgb3.size)).trans ((hgb3.block bc (ZL HKA2.out) (by have := HBB.out; simp; omega)).trans HKA2.out), ((Gb.of HL2.out).trans hgb3).more hl4⟩)
 have HNS := ZH (show bs ≠ b ∧ bs ≠ bl ∧ bs ≠ bc ∧ w.heap.size ≤ bs from by
  have h1 := HH2.out.lt; have h2 := HR2.out.lt; have h3 := ZL HKA2.out; have h4 := hgb3.size; have h5 := HL2.out.size; omega)
 clear hv hg3 hgb3 hw4 hbs hl4 k4 HR2 HH2 HL2 HKA2
 go_upto_region 3 with fail
 rw [← HW4.out.1, ← HW4.out.2]
 clear HW4
 go_wp2_with fail
 go_loopg [5] 2 (fun gk i wr => ∃ k : Nat, k + gk = 2 ∧ i = .int .i64 k ∧ Hid (RatRow wr bl d (rowTo d l k) 4 ∧ GrIn wr b (l.drop (1 + 2 * k)) d c ∧ wr.heap[bs]? = some (.cells #[.bool q1, .slice a1 c1 l1, .bool q2, .slice a2 c2 l2] 43 (0, 0)) ∧ RtIn wr (.agg #[.bool q1, .slice a1 c1 l1, .bool q2, .slice a2 c2 l2]) (smallQ l) 4 ∧ wr.heap[bc]? = some (.cells #[.string ⟨#[]⟩, .slice none 0 0] 57 (0, 0)) ∧ Gb b w wr))
 case atStart => exact ⟨0, by omega, rfl, HS⟩
 case round =>
  obtain ⟨k, hk, rfl, hst⟩ := hrel
  by_cases hlt : k < 2
  ·have e1 : ((k : Int) < 2) = True := eq_true (by omega)
   have HST := ZH hst.out
   obtain ⟨l0, hl0⟩ : ∃ x, x = l.drop (1 + 2 * k) := ⟨_, rfl⟩
   obtain ⟨H, hH⟩ : ∃ x, x = headB l0 := ⟨_, rfl⟩
   obtain ⟨I, hI⟩ : ∃ x, x = H % d := ⟨_, rfl⟩
   have HL0 := ZH (ZN hl0 (ZN hH hI))
   have HX0 := ZH (show Go.Proofs.YtdgimcmappmjdaaGreatDoor.TwoGr b d c 2 9 l0 (fun _ => false) wr.drew from TwoGr.init ((by rw [hl0]; exact hst.out.2.1.below (ZR _ _).drew)))
   have htm : (H : Int).tmod (d : Int) = (I : Int) := by rw [hI, Int.tmod_eq_emod_of_nonneg (by omega)]; exact (Int.natCast_emod _ _).symm
   have HLT := ZH (ZN hlt hk)
   have hI0 : (0 : Int) ≤ (I : Int) := by omega
   have hI1 : (I : Int) < (d : Int) := by have := Nat.mod_lt H hd0; omega
   have hdn : ¬ ((d : Int) = 0) := by omega
   have hdn2 : ¬ (d = 0) := by omega
   have hdn3 : ((d : Int) == 0) = false := ZQ.2 (by omega)
   clear hst hl0 hH hI hlt hk hd0 hd
   go_upto_region 6 with fail
   clear e1
   refine FlowX.wp_region_mixR (fun u v => Gb b u v) (fun u => Gb.refl b u) (fun _ _ _ h k => h.more k) (GrS b) (fun _ _ h => GrS.of h) [0, 1, 2, 3, 4, 5, 6, 7, 8, 9] [true, true, true, true, true, true, true, true, true, true, false, false] (fun j9 => [2, 9].contains j9) (fun i9 v w' => match i9 with
    | 0 => v = .slice (some ⟨bl, 0, none⟩) d d
    | 1 => v = .pointer (some ⟨b, 0, none⟩)
    | 2 => v = .int .i64 (H : Int)
    | 3 => v = .pointer (some ⟨b, 0, none⟩)
    | 4 => v = .pointer (some ⟨b, 0, none⟩)
    | 5 => v = .pointer (some ⟨b, 1, none⟩)
    | 6 => v = .int .i64 (d : Int)
    | 7 => v = .int .i64 (I : Int)
    | 8 => v = .pointer (some ⟨b, 0, none⟩)
    | _ => RtIn w' v (smallQ l0.tail) 4 ∧ b < w'.heap.size ∧ NoDigAt w' b) (fun L _ w => TwoGr b d c 2 9 l0 L w) rfl rfl (by kernel_rfl) (by kernel_rfl) (by kernel_rfl) (by kernel_rfl) ?st ?hX ?hX0 ?steps ?fin
   case st =>
    intro i9 v u1 u2 h hb
    match i9 with
    | 0 | 1 | 2 | 3 | 4 | 5 | 6 | 7 | 8 => exact h
    | 9 | _ + 10 => exact RtIn.grs (show RtIn u1 v (smallQ l0.tail) 4 ∧ b < u1.heap.size ∧ NoDigAt u1 b from h) hb
   case hX => exact fun L xs w L' xs' w' h he hb => h.below (he 2 rfl).1 (he 9 rfl).1 hb
   case hX0 => exact fun xs => HX0.out
   case steps =>
    refine Flow.Steps.cons (.inl ⟨rfl, FlowX.StepS.of rfl ?s0⟩) (Flow.Steps.cons (.inl ⟨rfl, FlowX.StepS.of rfl ?s1⟩) (Flow.Steps.cons (.inr ⟨rfl, FlowX.StepX.of rfl ?s2⟩) (Flow.Steps.cons (.inl ⟨rfl, FlowX.StepS.of rfl ?s3⟩) (Flow.Steps.cons (.inl ⟨rfl, FlowX.StepS.of rfl ?s4⟩) (Flow.Steps.cons (.inl ⟨rfl, FlowX.StepS.of rfl ?s5⟩) (Flow.Steps.cons (.inl ⟨rfl, FlowX.StepS.of rfl ?s6⟩) (Flow.Steps.cons (.inl ⟨rfl, FlowX.StepS.of rfl ?s7⟩) (Flow.Steps.cons (.inl ⟨rfl, FlowX.StepS.of rfl ?s8⟩) (Flow.Steps.cons (.inr ⟨rfl, FlowX.StepX.of rfl ?s9⟩) Flow.Steps.nil)))))))))
    case s0 | s1 | s3 | s8 =>
     intro L9 xs w' hb hT hX9 K9 hK9
     clear hT
     simp only [zFp, zAp, zLa, zLb, zLc, Nat.reduceAdd, zNz] at hK9 ⊢
     have hw := hb
     go_simp
     exact hK9 _ _ (ZR _ _) rfl
    case s2 =>
     intro L9 xs w' hb hT hX9 hL9 K9 hK9
     have h1 : (xs 1) = .pointer (some ⟨b, 0, none⟩) := (hT 1 (by kernel_rfl)).2
     clear hT
     simp only [zFp, zAp, zLa, zLb, zLc, Nat.reduceAdd, zNz] at hK9 ⊢
     have hw := hb
     (try simp only [h1] at hK9)
     go_simp
     go_at_call 69
     refine (pnext_any (hX9.s0 hL9)).mono ?_
     rintro e w3 ⟨rfl, hg3, hgb3⟩
     exact hK9 _ _ (hb.trans hgb3) (GrS.gr hgb3 hg3) (by rw [HL0.out.2.1]) (hX9.make1 (by decide) hL9 hg3)
    case s4 =>
     intro L9 xs w' hb hT hX9 K9 hK9
     have h3 : (xs 3) = .pointer (some ⟨b, 0, none⟩) := (hT 3 (by kernel_rfl)).2
     clear hT
     simp only [zFp, zAp, zLa, zLb, zLc, Nat.reduceAdd, zNz] at hK9 ⊢
     have hw := hb
     (try simp only [h3] at hK9)
     go_simp
     exact hK9 _ _ (ZR _ _) rfl
    case s5 =>
     intro L9 xs w' hb hT hX9 K9 hK9
     have h4 : (xs 4) = .pointer (some ⟨b, 0, none⟩) := (hT 4 (by kernel_rfl)).2
     clear hT
     simp only [zFp, zAp, zLa, zLb, zLc, Nat.reduceAdd, zNz] at hK9 ⊢
     have hw := hb
     (try simp only [h4] at hK9)
     go_simp
     exact hK9 _ _ (ZR _ _) rfl
    case s6 =>
     intro L9 xs w' hb hT hX9 K9 hK9
     have h5 : (xs 5) = .pointer (some ⟨b, 1, none⟩) := (hT 5 (by kernel_rfl)).2
     clear hT
     simp only [zFp, zAp, zLa, zLb, zLc, Nat.reduceAdd, zNz] at hK9 ⊢
     have hw := hb
     (try simp only [h5] at hK9)
     obtain ⟨l9, av, cv9, h9, -⟩ := hX9.any
     have y1 := ZI h9 1
     simp at y1
     clear h9
     go_simp
     exact hK9 _ _ (ZR _ _) rfl
    case s7 =>
     intro L9 xs w' hb hT hX9 K9 hK9
     have h2 : (xs 2) = .int .i64 (H : Int) := (hT 2 (by kernel_rfl)).2
     have h6 : (xs 6) = .int .i64 (d : Int) := (hT 6 (by kernel_rfl)).2
     clear hT
     simp only [zFp, zAp, zLa, zLb, zLc, Nat.reduceAdd, zNz] at hK9 ⊢
     have hw := hb
     (try simp only [h2] at hK9)
     (try simp only [h6] at hK9)
     go_simp
     exact hK9 _ _ (ZR _ _) rfl
    case s9 =>
     intro L9 xs w' hb hT hX9 hL9 K9 hK9
     have h2 : (xs 2) = .int .i64 (H : Int) := (hT 2 (by kernel_rfl)).2
     have l2 : L9 2 = true := (hT 2 (by kernel_rfl)).1
     have h8 : (xs 8) = .pointer (some ⟨b, 0, none⟩) := (hT 8 (by kernel_rfl)).2
     clear hT
     simp only [zFp, zAp, zLa, zLb, zLc, Nat.reduceAdd, zNz] at hK9 ⊢
     have hw := hb
     (try simp only [h2] at hK9)
     (try simp only [h8] at hK9)
     have hp9 := l2
     have hq9 := hX9.s1 hp9 hL9
     go_simp
     go_at_call 68
     refine (psmall_any hq9).mono ?_
     rintro e w3 ⟨v3, rfl, hv3, hg3, hgb3⟩
     exact hK9 _ _ (hb.trans hgb3) (GrS.gr hgb3 hg3) ⟨hv3, hg3.lt, gr_nodig hg3⟩ (hX9.make2 (by decide) hp9 hg3)
   case fin =>
    intro xs w' hb hT hX9
    have hw := hb
    have h0 : (xs 0) = .slice (some ⟨bl, 0, none⟩) d d := hT 0 (by rfl)
    have h7 : (xs 7) = .int .i64 (I : Int) := hT 7 (by rfl)
    have h9 : RtIn w' (xs 9) (smallQ l0.tail) 4 ∧ b < w'.heap.size ∧ NoDigAt w' b := hT 9 (by rfl)
    clear hT
    simp only [zFp, zAp, zLa, zLb, zLc, Nat.reduceAdd, zNz, FlowR.restL]
    obtain ⟨hv9, -, -⟩ := h9
    obtain ⟨p1, g1, i1, j1, p2, g2, i2, j2, e9⟩ := rt_shape hv9
    rw [e9] at hv9
    simp only [h0, h7, e9]
    clear h0 h7 e9
    have hG9 : GrIn w' b l0.tail.tail d c := hX9.s2 (by rfl)
    have hgb9 : Gb b wr w' := (Gb.of (ZR _ wr).drew).trans hb
    have hrr := HST.out.1.but (by have := HBL.out; omega) (gr_nodig HST.out.2.1) hgb9.but
    have hns := (hgb9.block bs (ZL HST.out.2.2.1) (by have := HNS.out; simp; omega)).trans HST.out.2.2.1
    have hnc := (hgb9.block bc (ZL HST.out.2.2.2.2.1) (by have := HBB.out; simp; omega)).trans HST.out.2.2.2.2.1
    have hrs := HST.out.2.2.2.1.but (gr_nodig HST.out.2.1) hgb9.but
    have hIn : I < (rowTo d l k).length := by rw [rowTo_len]; omega
    obtain ⟨b0, b1, b2, b3, b4, b5, b6, b7, m0, m1, m2, m3, -⟩ := hrr.at4 hIn
    obtain ⟨cs, hcs, -⟩ := id hrr
    have f0 := ZF hcs (I * 4)
    have f1 := ZF hcs (I * 4 + 1)
    have f2 := ZF hcs (I * 4 + 2)
    have f3 := ZF hcs (I * 4 + 3)
    have hu : But bl w' ((((w'.setCell ⟨bl, I * 4, none⟩ (.bool p1)).setCell ⟨bl, I * 4 + 1, none⟩ (.slice g1 i1 j1)).setCell ⟨bl, I * 4 + 2, none⟩ (.bool p2)).setCell ⟨bl, I * 4 + 3, none⟩ (.slice g2 i2 j2)) := ((((But.refl bl w').set _ _).set _ _).set _ _).set _ _
    have hp1 := hrr.put (rowTo_len d l k) (i := I) (by rw [rowTo_len] at hIn; exact hIn) hv9
    have hgw : Gb b w w' := HST.out.2.2.2.2.2.trans hgb9
    have HE := ZH (ZN hp1 (ZN (hG9.but (hrr.nobyte (rowTo_len d l k)) (by have := HBL.out; omega) hu) (ZN ((hu.block bs (by have := HNS.out; omega) (ZL hns)).trans hns) (ZN (hrs.but hrr.nodig hu) (ZN ((hu.block bc (by have h1 := ZL HKA.out; have h2 := HBL.out; have h3 := HNC.out; omega) (ZL hnc)).trans hnc) (show Gb b w ((((w'.setCell ⟨bl, I * 4, none⟩ (.bool p1)).setCell ⟨bl, I * 4 + 1, none⟩ (.slice g1 i1 j1)).setCell ⟨bl, I * 4 + 2, none⟩ (.bool p2)).setCell ⟨bl, I * 4 + 3, none⟩ (.slice g2 i2 j2)) from ⟨hgw.os, hgw.tape, hgw.output, Nat.le_trans hgw.size hu.size, fun k hk hn => (hu.block k (by have := HBL.out; omega) (Nat.lt_of_lt_of_le hk hgw.size)).trans (hgw.block k hk hn)⟩))))))
    clear hv9 hG9 hgb9 hrr hns hnc hrs hIn hcs hu hp1 hgw hX9 hb
    go_wp2_with fail
    go_roundg (2 - (k + 1))
    case measure => have := HLT.out; omega
    case rel => exact ⟨k + 1, by have := HLT.out; omega, by first | (congr 1; done) | (congr 1; exact IntWalk.wrap64_in ((k : Int) + 1) (by have h1 := HLT.out; omega)), ZH ⟨by rw [rowTo, ← HL0.out.1, ← HL0.out.2.1, ← HL0.out.2.2, show l.drop (2 + 2 * k) = l0.tail by rw [HL0.out.1, drop_tail]; congr 1; omega]; exact HE.out.1, by rw [show l.drop (1 + 2 * (k + 1)) = l0.tail.tail by rw [HL0.out.1, drop_tail, drop_tail]; congr 1]; exact HE.out.2.1, HE.out.2.2.1, HE.out.2.2.2.1, HE.out.2.2.2.2.1, HE.out.2.2.2.2.2⟩⟩
  ·have e1 : ((k : Int) < 2) = False := eq_false (by omega)
   obtain rfl : k = 2 := by omega
   have HST := ZH hst.out
   clear hst hlt hk
   obtain ⟨z0, z1, z2, z3⟩ := cells4 (ZR _ wr) HST.out.2.2.1
   have hpf := pform_any (HG.out.gr HG0.out HST.out.2.2.2.2.2) HST.out.2.2.2.1 (by omega) (HST.out.1.reads (rowTo_len d l 2) (by unfold maxLen; omega)) (by rw [rowTo_len]; omega) (by omega)
   rw [rowTo_len] at hpf
   have HPF := ZH hpf
   clear hpf
   go_wp2_with fail
   refine HPF.out.mono ?_
   rintro e w5 ⟨v, rfl, hform, hb5⟩
   obtain ⟨tv, rfl, htr⟩ := hform
   obtain ⟨ta, tn, tc, rfl⟩ := htr.shape
   have kc := (hb5.block bc (ZL HST.out.2.2.2.2.1)).trans HST.out.2.2.2.2.1
   obtain ⟨NT, hNT⟩ : ∃ s : ByteArray, s = ⟨(numText (smallQ l)).toArray⟩ := ⟨_, rfl⟩
   rw [← hNT]
   have y0 := ZI kc 0
   have y1 := ZI kc 1
   have f0 := ZF kc 0
   have f1 := ZF kc 1
   simp at y0 y1
   have hltc := ZL HST.out.2.2.2.2.1
   have hu : But bc w5 ((w5.setCell ⟨bc, 0, none⟩ (.string NT)).setCell ⟨bc, 1, none⟩ (.slice ta tn tc)) := ((But.refl bc w5).set 0 _).set 1 _
   have hnb : NoByteAt w5 bc := by
    intro i x e
    rw [ZI kc] at e
    match i, e with
    | 0, e => simp at e
    | 1, e => simp at e
    | _ + 2, e => simp at e
   have hgb5 : Gb b w w5 := HST.out.2.2.2.2.2.more hb5
   have HF := ZH (ZN ((htr.set hltc 0 (.string NT)).set hltc 1 (.slice ta tn tc)) (ZN ((HST.out.2.1.below hb5).but hnb (by have := HBB.out; omega) hu) (show Gb b w ((w5.setCell ⟨bc, 0, none⟩ (.string NT)).setCell ⟨bc, 1, none⟩ (.slice ta tn tc)) from ⟨hgb5.os, hgb5.tape, hgb5.output, Nat.le_trans hgb5.size hu.size, fun k hk hn => (hu.block k (by have := HBC.out; omega) (Nat.lt_of_lt_of_le hk hgb5.size)).trans (hgb5.block k hk hn)⟩)))
   have HSZ := ZH HST.out.2.2.2.2.2.size
   have HNT := ZH hNT
   clear htr kc hltc hu hnb hgb5 hb5 hNT z0 z1 z2 z3 e1
   go_wp2_with fail
   refine bodyPost_ret (v := .agg #[.string NT, .slice ta tn tc]) (by simp [results, Tryz.results25, go_sem, y0, y1]) rfl ⟨_, rfl, ⟨_, by rw [HNT.out]; rfl, ?_⟩, HF.out.2.1, HF.out.2.2⟩
   have h9 : TermRow _ w.heap.size _ _ := World.ownsRow.mono HF.out.1 HSZ.out
   have e9 : formTexts (growF d l) = sumTerms (tmap (rowTo d l 2)) d := by
    unfold formTexts
    rw [growF_len]
    rfl
   rw [e9]
   exact h9
end Go.Proofs.YtdgimcmappmjdaaGreatDoor
