/- The model's form. -/
import Derived.Test.YtgofihilkobenaaGreatDoorKM
set_option maxRecDepth 100000
namespace Go.Proofs.YtgofihilkobenaaGreatDoor
open List renaming setIfInBounds_toArray → zLa, set_cons_zero → zLb, set_cons_succ → zLc
open FlowR renaming putSel → zFp
open Act renaming put → zAp
open Nat renaming zero_add → zNz
open Go.RowKit Go.Num Go.Flow Go.Maps Go.WideMaps Go.Dtm
set_option maxHeartbeats 8000000

theorem qform_any {w : World} (hg : Glob w) {c : Int} (h0 : -9223372036854775808 ≤ c) (h1 : c ≤ 9223372036854775807) {b n K : Nat} {m : Int → Option Rat} (hm : RMapIn w b n K m) (hK : K ≤ 900000) :
  Calls Tryz.prog 44 #[.int .i64 c, .map (some b)] w fun e w' => ∃ v, e = .returned v ∧ FormIn w' w.heap.size v (numText (c : Rat)) (sumTerms m 64) ∧ Below w.heap.size w w' := by
 obtain ⟨wa, hwa⟩ : ∃ wa, wa = w.alloc (.cells #[.string ⟨#[]⟩, .slice none 0 0] 78) := ⟨_, rfl⟩
 obtain ⟨bc, hbc⟩ : ∃ b, b = w.heap.size := ⟨_, rfl⟩
 have hal : Below w.heap.size w wa := by rw [hwa]; exact (Below.refl _ w).alloc (Nat.le_refl _) _
 have k0 : wa.heap[bc]? = some (.cells #[.string ⟨#[]⟩, .slice none 0 0] 78 (0, 0)) := by rw [hwa, hbc]; exact heap_alloc_new w _
 have HGbc := Lib.hid (show w.heap.size ≤ bc by omega)
 have HFR := Lib.hid (ratFrom_any (w := wa) h0 h1)
 have HAL := Lib.hid hal
 have HK0 := Lib.hid k0
 have HM := Lib.hid (hm.below hal)
 have HG := Lib.hid (hg.below hal)
 have HW := Lib.hid (And.intro hwa hbc)
 clear hal hwa hbc k0 hm hg
 go_enter Tryz.func44, Tryz.ntmps44
 go_upto_region 1 with fail
 rw [← HW.out.1, ← HW.out.2]
 clear HW
 go_wp2_with fail
 refine HFR.out.mono ?_
 rintro e w1 ⟨v1, rfl, hr1, hb1⟩
 have HNM := Lib.hid (Number_any hr1 (by omega) (HG.out.below hb1))
 have HB1 := Lib.hid hb1
 clear hr1 hb1
 go_wp2_with fail
 refine HNM.out.mono ?_
 rintro e w2 ⟨rfl, hb2⟩
 have HB2 := Lib.hid (HB1.out.trans (hb2.mono HB1.out.size))
 clear hb2
 go_upto_region 2 with fail
 obtain ⟨S, hS⟩ : ∃ S : ByteArray, S = ⟨(numText (c : Rat)).toArray⟩ := ⟨_, rfl⟩
 rw [← hS]
 obtain ⟨w3, hw3⟩ : ∃ x, x = w2.alloc (.cells #[.string S, .slice none 0 0] 78) := ⟨_, rfl⟩
 obtain ⟨bf, hbf⟩ : ∃ b, b = w2.heap.size := ⟨_, rfl⟩
 rw [← hw3, ← hbf]
 have hl3 : Below w2.heap.size w2 w3 := by rw [hw3]; exact (Below.refl _ w2).alloc (Nat.le_refl _) _
 have HGF := Lib.hid (show wa.heap.size ≤ bf by rw [hbf]; exact HB2.out.size)
 have kf : w3.heap[bf]? = some (.cells #[.string S, .slice none 0 0] 78 (0, 0)) := by rw [hw3, hbf]; exact heap_alloc_new w2 _
 have HB3 := Lib.hid (HB2.out.trans (hl3.mono HB2.out.size))
 have HKF := Lib.hid kf
 have HS := Lib.hid hS
 clear hw3 hl3 kf hS hbf
 go_wp2_with fail
 go_loopg [13] 64 (fun gk x wr => ∃ (k : Nat) (tv : Value), k + gk = 64 ∧ x = .int .i64 k ∧ Hid (wr.heap[bf]? = some (.cells #[.string S, tv] 78 (0, 0)) ∧ TermRow wr wa.heap.size tv (sumTerms m k)) ∧ Hid (Below wa.heap.size wa wr))
 case atStart => exact ⟨0, _, rfl, rfl, Lib.hid ⟨HKF.out, World.ownsRow_nil _ _ _ _⟩, HB3⟩
 case round =>
  obtain ⟨k, tv, hk, rfl, hkf, hbw⟩ := hrel
  by_cases hlt : k < 64
  ·have e1 : ((k : Int) < 64) = True := eq_true (by omega)
   have hmr := HM.out.below hbw.out
   obtain ⟨D, hown, hD⟩ := hmr
   have HOWN := Lib.hid hown
   have HD := Lib.hid (hD (k : Int))
   clear hown hD
   go_wp2_with (at_lookup; refine wpList_lookup_own_ok _ rfl _ _ 100 rfl 3 65 (int_keyed Tryz.underlying3) Tryz.underlying100 asIs (z := zeroRat) ?hz (.held zeroRat) [] rfl b n D rfl HOWN.out _ (.int .i64 (k : Int)) rfl (key_int (by omega) (by omega)) ?_)
   case hz => exact zeroRat_run _
   intro v ps hv
   obtain ⟨q, hq⟩ : ∃ q, q = (m (k : Int)).getD 0 := ⟨_, rfl⟩
   have hvv : Maps.has D (.int .i64 (k : Int)) = (m (k : Int)).isSome ∧ RtIn wr v q K := by
    have h := HD.out
    unfold asIs at hv
    simp only [Option.some.injEq, Prod.mk.injEq] at hv
    cases hm : m (k : Int) with
    | none =>
     rw [hm] at h
     have h2 := hv.1
     rw [Maps.atKey_of_not_has h] at h2
     cases h2
     rw [hq, hm]
     exact ⟨by rw [h]; rfl, zero_rt wr K⟩
    | some r =>
     rw [hm] at h
     obtain ⟨h3, u, h4, h5⟩ := h
     have h2 := hv.1
     rw [h4] at h2
     cases h2
     rw [hq, hm]
     exact ⟨by rw [h3]; rfl, h5⟩
   obtain ⟨s1, a1, c1, l1, s2, a2, c2, l2, rfl⟩ := rt_shape hvv.2
   obtain ⟨ok, hok⟩ : ∃ b, b = (m (k : Int)).isSome := ⟨_, rfl⟩
   rw [← hok] at hvv
   rw [hvv.1]
   have HR := Lib.hid hvv.2
   have HQ := Lib.hid (And.intro hq hok)
   clear hv hvv hq hok
   go_upto_region 6 with fail
   obtain ⟨w4, hw4⟩ : ∃ x, x = wr.alloc (.cells #[.bool s1, .slice a1 c1 l1, .bool s2, .slice a2 c2 l2] 65) := ⟨_, rfl⟩
   obtain ⟨bq, hbq⟩ : ∃ b, b = wr.heap.size := ⟨_, rfl⟩
   rw [← hw4, ← hbq]
   have hl4 : Below wr.heap.size wr w4 := by rw [hw4]; exact (Below.refl _ wr).alloc (Nat.le_refl _) _
   have kq : w4.heap[bq]? = some (.cells #[.bool s1, .slice a1 c1 l1, .bool s2, .slice a2 c2 l2] 65 (0, 0)) := by rw [hw4, hbq]; exact heap_alloc_new wr _
   have hkf4 := (hl4.block bf (lt_of_block hkf.out.1)).trans hkf.out.1
   have HT4 := Lib.hid (hkf.out.2.below hl4)
   have HB4 := Lib.hid (hbw.out.trans (hl4.mono hbw.out.size))
   have HR4 := Lib.hid (HR.out.below hl4)
   have HQ4 := Lib.hid kq
   have HF4 := Lib.hid hkf4
   clear hw4 hbq hl4 kq hkf4 hkf hbw HR
   go_cut [27, 13] from 13 to 37 (fun d x wx => d = .bool (ok && decide (q.num ≠ 0)) ∧ x = .int .i64 (k : Int) ∧ Below w4.heap.size w4 wx)
   case first =>
    cases ok with
    | false =>
     go_wp2_with fail
     go_meet
     exact ⟨rfl, rfl, Below.refl _ _⟩
    | true =>
     have z0 := block_cell HQ4.out 0
     have z1 := block_cell HQ4.out 1
     have z2 := block_cell HQ4.out 2
     have z3 := block_cell HQ4.out 3
     simp at z0 z1 z2 z3
     have HSG := Lib.hid (ratSign_any HR4.out)
     go_wp2_with fail
     refine HSG.out.mono ?_
     rintro e w5 ⟨rfl, hb5⟩
     have HB5 := Lib.hid hb5
     clear hb5
     go_wp2_with fail
     go_meet
     exact ⟨congrArg Value.bool (by rw [Bool.true_and]; exact cmp_nez), rfl, HB5.out⟩
   case rest =>
    obtain ⟨rfl, rfl, hb5⟩ := hcut
    have HB5 := Lib.hid hb5
    clear hb5
    have HT5 := Lib.hid (HT4.out.below HB5.out)
    have hkf5 := (HB5.out.block bf (lt_of_block HF4.out)).trans HF4.out
    have HF5 := Lib.hid hkf5
    have HBF := Lib.hid (HB4.out.trans (HB5.out.mono HB4.out.size))
    clear hkf5
    have HLT := Lib.hid hlt
    clear hlt
    cases hfl : (ok && decide (q.num ≠ 0)) with
    | true =>
     obtain ⟨ao, tn, tc, rfl⟩ := HT5.out.shape
     have hkq := (HB5.out.block bq (lt_of_block HQ4.out)).trans HQ4.out
     have HKQ := Lib.hid hkq
     have HRQ := Lib.hid (HR4.out.below HB5.out)
     obtain ⟨NT, hNT⟩ : ∃ S : ByteArray, S = ⟨(numText q).toArray⟩ := ⟨_, rfl⟩
     have HNT := Lib.hid hNT
     have HTS := Lib.hid (show sumTerms m (k + 1) = sumTerms m k ++ [(k, numText q)] by
      have h := hfl
      rw [HQ.out.1, HQ.out.2] at h
      rw [sumTerms, HQ.out.1]
      cases hm : m (k : Int) with
      | none => rw [hm] at h; simp at h
      | some r =>
       rw [hm] at h
       have h0 : r.num ≠ 0 := by simpa using h
       simp only [if_neg h0]
       rfl)
     obtain ⟨i0, hi, hz0, hz1, hz2⟩ := info_parts infoTerm
     have HI := Lib.hid (And.intro hi (And.intro hz0 (And.intro hz1 hz2)))
     have HTL := Lib.hid (terms_len m k)
     have HOB := Lib.hid (HT5.out.off HF5.out (by decide))
     have HWC := Lib.hid (Below.refl wc.heap.size wc)
     have hK900 := hK
     clear hi hz0 hz1 hz2 hkq hNT hfl
     go_upto_region 7 with fail
     refine FlowR.wp_region_sel (fun a b => Below a.heap.size a b) (fun a => Below.refl _ a) (fun _ _ _ h k => h.trans (k.mono h.size)) [0, 1, 2, 3, 4, 5, 6] [false, false, false, false, false, false, false, false, false, false] [true, true, true, true, true, true, true, false, false, false] (fun i v w' => match i with
      | 0 => v = .pointer (some ⟨bf, 1, none⟩)
      | 1 => v = .slice ao tn tc
      | 2 => v = .int .i64 (k : Int)
      | 3 => v = .agg #[.bool s1, .slice a1 c1 l1, .bool s2, .slice a2 c2 l2]
      | 4 => v = .string NT
      | 5 => v = .agg #[.int .i64 (k : Int), .string NT]
      | _ => ∃ b, v = .slice (some ⟨b, 0, none⟩) 1 1 ∧ w'.heap[b]? = some (.cells #[.int .i64 (k : Int), .string NT] 146 (0, 0)) ∧ wc.heap.size ≤ b) rfl rfl (by kernel_rfl) (by kernel_rfl) (by kernel_rfl) (by kernel_rfl) ?st ?steps ?fin
     case st =>
      intro i v w1 w2 h hb
      match i with
      | 0 => exact h
      | 1 => exact h
      | 2 => exact h
      | 3 => exact h
      | 4 => exact h
      | 5 => exact h
      | 6 => exact by obtain ⟨b, e, hk, hl⟩ := (show ∃ b, v = .slice (some ⟨b, 0, none⟩) 1 1 ∧ w1.heap[b]? = some (.cells #[.int .i64 (k : Int), .string NT] 146 (0, 0)) ∧ wc.heap.size ≤ b from h); exact ⟨b, e, (hb.block b (lt_of_block hk)).trans hk, hl⟩
      | _ + 7 => exact by obtain ⟨b, e, hk, hl⟩ := (show ∃ b, v = .slice (some ⟨b, 0, none⟩) 1 1 ∧ w1.heap[b]? = some (.cells #[.int .i64 (k : Int), .string NT] 146 (0, 0)) ∧ wc.heap.size ≤ b from h); exact ⟨b, e, (hb.block b (lt_of_block hk)).trans hk, hl⟩
     case steps =>
      refine Flow.Steps.cons (FlowR.Step.of rfl ?s0) (Flow.Steps.cons (FlowR.Step.of rfl ?s1) (Flow.Steps.cons (FlowR.Step.of rfl ?s2) (Flow.Steps.cons (FlowR.Step.of rfl ?s3) (Flow.Steps.cons (FlowR.Step.of rfl ?s4) (Flow.Steps.cons (FlowR.Step.of rfl ?s5) (Flow.Steps.cons (FlowR.Step.of rfl ?s6) Flow.Steps.nil))))))
      case s0 =>
       intro xs w' hb hT K hK
       clear hT
       simp only [zFp, zAp, zLa, zLb, zLc, Nat.reduceAdd, zNz] at hK ⊢
       have hw := Flow.hwD HWC.out hb
       go_simp
       exact hK _ _ (Below.refl _ _) rfl
      case s1 =>
       intro xs w' hb hT K hK
       have h0 : (xs 0) = .pointer (some ⟨bf, 1, none⟩) := hT 0 (by kernel_rfl)
       clear hT
       simp only [zFp, zAp, zLa, zLb, zLc, Nat.reduceAdd, zNz] at hK ⊢
       have hw := Flow.hwD HWC.out hb
       have kb := (hw.block bf (lt_of_block HF5.out)).trans HF5.out
       have y0 := block_cell kb 1
       clear kb
       simp at y0
       (try simp only [h0] at hK)
       go_simp
       exact hK _ _ (Below.refl _ _) rfl
      case s2 =>
       intro xs w' hb hT K hK
       clear hT
       simp only [zFp, zAp, zLa, zLb, zLc, Nat.reduceAdd, zNz] at hK ⊢
       have hw := Flow.hwD HWC.out hb
       go_simp
       exact hK _ _ (Below.refl _ _) rfl
      case s3 =>
       intro xs w' hb hT K hK
       clear hT
       simp only [zFp, zAp, zLa, zLb, zLc, Nat.reduceAdd, zNz] at hK ⊢
       have hw := Flow.hwD HWC.out hb
       have kb := (hw.block bq (lt_of_block HKQ.out)).trans HKQ.out
       have y0 := block_cell kb 0
       have y1 := block_cell kb 1
       have y2 := block_cell kb 2
       have y3 := block_cell kb 3
       clear kb
       simp at y0 y1 y2 y3
       go_simp
       exact hK _ _ (Below.refl _ _) rfl
      case s4 =>
       intro xs w' hb hT K hK
       have h3 : (xs 3) = .agg #[.bool s1, .slice a1 c1 l1, .bool s2, .slice a2 c2 l2] := hT 3 (by kernel_rfl)
       clear hT
       simp only [zFp, zAp, zLa, zLb, zLc, Nat.reduceAdd, zNz] at hK ⊢
       have hw := Flow.hwD HWC.out hb
       (try simp only [h3] at hK)
       go_simp
       go_at_call 27
       refine (Number_any (HRQ.out.below hw) hK900 (HG.out.below (HBF.out.trans (hw.mono HBF.out.size)))).mono ?_
       rintro e w3 ⟨rfl, hb3⟩
       exact hK _ _ hb3 (by rw [HNT.out])
      case s5 =>
       intro xs w' hb hT K hK
       have h2 : (xs 2) = .int .i64 (k : Int) := hT 2 (by kernel_rfl)
       have h4 : (xs 4) = .string NT := hT 4 (by kernel_rfl)
       clear hT
       simp only [zFp, zAp, zLa, zLb, zLc, Nat.reduceAdd, zNz] at hK ⊢
       have hw := Flow.hwD HWC.out hb
       (try simp only [h2] at hK)
       (try simp only [h4] at hK)
       go_simp
       exact hK _ _ (Below.refl _ _) rfl
      case s6 =>
       intro xs w' hb hT K hK
       have h5 : (xs 5) = .agg #[.int .i64 (k : Int), .string NT] := hT 5 (by kernel_rfl)
       clear hT
       simp only [zFp, zAp, zLa, zLb, zLc, Nat.reduceAdd, zNz] at hK ⊢
       have hw := Flow.hwD HWC.out hb
       (try simp only [h5] at hK)
       go_simp
       exact hK _ _ ((Below.refl _ _).alloc (Nat.le_refl _) _) ⟨_, rfl, heap_alloc_new _ _, by have h1 := (Below.refl wc.heap.size wc).drew.size; have h2 := hw.size; omega⟩
     case fin =>
      intro xs w' hb hT
      have hw := Flow.hwD HWC.out hb
      have h1 : (xs 1) = .slice ao tn tc := hT 1 (by rfl)
      have h6 : ∃ b, (xs 6) = .slice (some ⟨b, 0, none⟩) 1 1 ∧ w'.heap[b]? = some (.cells #[.int .i64 (k : Int), .string NT] 146 (0, 0)) ∧ wc.heap.size ≤ b := hT 6 (by rfl)
      clear hT
      simp only [zFp, zAp, zLa, zLb, zLc, Nat.reduceAdd, zNz, FlowR.restL, FlowR.orM, Bool.false_or]
      obtain ⟨b6, e6, k6, hl6⟩ := h6
      simp only [h1, e6]
      clear h1 e6 hb
      have kf7 := (hw.block bf (lt_of_block HF5.out)).trans HF5.out
      have TT := Lib.hid (HT5.out.below hw)
      have HW7 := Lib.hid hw
      have HKF7 := Lib.hid kf7
      have HK6 := Lib.hid (And.intro k6 hl6)
      clear hw kf7 k6 hl6
      refine wpList_append_own _ rfl _ _ 76 rfl wa.heap.size 146 i0 _ 2 24 Tryz.underlying76 HI.out.1 HI.out.2.1 HI.out.2.2.1 HI.out.2.2.2 rfl (by decide) _ _ _ rfl TT.out ⟨b6, 0, none⟩ 1 1 [.int .i64 (k : Int), .string NT] rfl rfl ?c1 ?c2 ?c3 ?c4 ?c5 ?_
      case c1 => exact World.news_of_block HK6.out.1
      case c2 => simp [Value.oneCell']
      case c3 => have := HTL.out; have := HLT.out; unfold maxLen; omega
      case c4 => have := HTL.out; have := HLT.out; omega
      case c5 => have h1 := HBF.out.size; have h2 := HW7.out.size; omega
      intro v7 w7 hown7 hg7 _
      have k7 := (hg7.block bf (by have h1 := lt_of_block HF5.out; have h2 := HW7.out.size; omega) (fun e => HOB.out bf e.symm rfl)).trans HKF7.out
      have y1 := block_cell k7 1
      have g1 := block_free k7 1
      simp at y1
      have hb7 := (HBF.out.trans (HW7.out.mono HBF.out.size)).grown hg7 (by have h1 := HBF.out.size; have h2 := HW7.out.size; omega) (fun q e => (World.ownsRow.lt TT.out q e).1)
      have hr7 : TermRow w7 wa.heap.size v7 (sumTerms m (k + 1)) := by
       rw [HTS.out]
       rw [HNT.out] at hown7
       exact TermRow.snoc hown7
      obtain ⟨a7, n7, c7, rfl⟩ := hr7.shape
      have HO7 := Lib.hid (hr7.off k7 (by decide))
      have HR7 := Lib.hid hr7
      clear hr7
      have H7 := Lib.hid (And.intro hown7 (And.intro k7 hb7))
      clear hown7 hg7 k7 hb7
      go_wp2_with fail
      go_roundg (64 - (k + 1))
      case measure => have := HLT.out; omega
      case rel => exact ⟨k + 1, _, by have := HLT.out; omega, by congr 1, Lib.hid ⟨two_set1 H7.out.2.1 _, TermRow.setNe HR7.out HO7.out 1 _⟩, Lib.hid (H7.out.2.2.setCell (p := ⟨bf, 1, none⟩) HGF.out _)⟩
    | false =>
     have HTE := Lib.hid (show sumTerms m (k + 1) = sumTerms m k by
      have h := hfl
      rw [HQ.out.1, HQ.out.2] at h
      rw [sumTerms]
      cases hm : m (k : Int) with
      | none => exact List.append_nil _
      | some r =>
       rw [hm] at h
       have h0 : r.num = 0 := by simpa using h
       simp only [h0, if_pos]
       exact List.append_nil _)
     clear hfl
     go_wp2_with fail
     go_roundg (64 - (k + 1))
     case measure => have := HLT.out; omega
     case rel => exact ⟨k + 1, tv, by have := HLT.out; omega, by congr 1, Lib.hid ⟨HF5.out, by rw [HTE.out]; exact HT5.out⟩, HBF⟩
  ·have e1 : ((k : Int) < 64) = False := eq_false (by omega)
   obtain rfl : k = 64 := by omega
   obtain ⟨ao, tn, tc, rfl⟩ := hkf.out.2.shape
   have y0 := block_cell hkf.out.1 0
   have y1 := block_cell hkf.out.1 1
   simp at y0 y1
   have hkc := (hbw.out.block bc (lt_of_block HK0.out)).trans HK0.out
   have z0 := block_cell hkc 0
   have z1 := block_cell hkc 1
   have f0 := block_free hkc 0
   have f1 := block_free hkc 1
   simp at z0 z1
   have hr := (hkf.out.2.set (lt_of_block HK0.out) 0 (.string S)).set (lt_of_block HK0.out) 1 (.slice ao tn tc)
   have hb := ((HAL.out.trans (hbw.out.mono HAL.out.size)).setCell (p := ⟨bc, 0, none⟩) HGbc.out (.string S)).setCell (p := ⟨bc, 1, none⟩) HGbc.out (.slice ao tn tc)
   have HF := Lib.hid (And.intro hr hb)
   clear hr hb hkc hkf
   go_wp2_with fail
   refine bodyPost_ret (v := .agg #[.string S, .slice ao tn tc]) (by simp [results, Tryz.results44, go_sem, z0, z1]) rfl ⟨_, rfl, ⟨_, by rw [HS.out], ?_⟩, HF.out.2⟩
   exact World.ownsRow.mono HF.out.1 HAL.out.size
end Go.Proofs.YtgofihilkobenaaGreatDoor
