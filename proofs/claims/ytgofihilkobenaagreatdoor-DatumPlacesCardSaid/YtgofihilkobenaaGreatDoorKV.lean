/- The model's place$1: a factor is added. -/
import Derived.Test.YtgofihilkobenaaGreatDoorKM
import Derived.Test.YtgofihilkobenaaGreatDoorKU
set_option maxRecDepth 100000
namespace Go.Proofs.YtgofihilkobenaaGreatDoor
open List renaming setIfInBounds_toArray → zLa, set_cons_zero → zLb, set_cons_succ → zLc
open FlowR renaming putSel → zFp
open Act renaming put → zAp
open Nat renaming zero_add → zNz
open Go.RowKit Go.Num Go.Flow Go.Maps Go.WideMaps Go.Dtm
set_option maxHeartbeats 8000000

theorem qadd2_any {w : World} {b n K k2 : Nat} {m : Int → Option Rat} (hm : RMapIn w b n K m) (hn : n < 1000000) (hK2 : 2 ≤ K) {i : Int} (hi0 : -9223372036854775808 ≤ i) (hi1 : i ≤ 9223372036854775807) {vk : Value} {q : Rat} (hq : RtIn w vk q k2) (hk2 : 2 ≤ k2) (hK : K + k2 + 1 ≤ 900000)
  {bm : Nat} (hcm : w.cell? ⟨bm, 0, none⟩ = some (.map (some b))) :
  Calls Tryz.prog 87 #[.int .i64 i, vk, .pointer (some ⟨bm, 0, none⟩)] w fun e w' => e = .returned (.tuple #[]) ∧ RMapIn w' b (n + 1) (K + k2 + 1) (addTo m i q) ∧ w.grownBy w' (some b) ∧ Stays w w' := by
 obtain ⟨s1, a1, c1, l1, s2, a2, c2, l2, rfl⟩ := rt_shape hq
 obtain ⟨wa, hwa⟩ : ∃ wa, wa = w.alloc (.cells #[.bool s1, .slice a1 c1 l1, .bool s2, .slice a2 c2 l2] 65) := ⟨_, rfl⟩
 obtain ⟨bk, hbk⟩ : ∃ b, b = w.heap.size := ⟨_, rfl⟩
 have hal : Below w.heap.size w wa := by rw [hwa]; exact (Below.refl _ w).alloc (Nat.le_refl _) _
 have kk : wa.heap[bk]? = some (.cells #[.bool s1, .slice a1 c1 l1, .bool s2, .slice a2 c2 l2] 65 (0, 0)) := by rw [hwa, hbk]; exact heap_alloc_new w _
 have HAL := Lib.hid hal
 have HKK := Lib.hid kk
 have HM := Lib.hid (hm.below hal)
 have HQ := Lib.hid (hq.below hal)
 have HCM := Lib.hid (cell_below hal hcm)
 have HI := Lib.hid (And.intro hi0 hi1)
 have HW0 := Lib.hid (Below.refl wa.heap.size wa)
 have HW := Lib.hid (And.intro hwa hbk)
 clear hwa hbk hal kk hm hq hcm
 go_enter Tryz.func87, Tryz.ntmps87
 go_upto_region 1 with fail
 rw [← HW.out.1, ← HW.out.2]
 clear HW
 refine FlowR.wp_region_sel (fun a b => Below a.heap.size a b) (fun a => Below.refl _ a) (fun _ _ _ h k => h.trans (k.mono h.size)) [0, 1, 2, 3, 4, 5, 6] [false, false, false, false, false, false, false, false] [true, true, true, true, true, true, true, false] (fun i9 v w' => match i9 with
  | 0 => v = .map (some b)
  | 1 => v = .int .i64 i
  | 2 => v = .map (some b)
  | 3 => v = .int .i64 i
  | 4 => RtIn w' v ((m i).getD 0) K
  | 5 => v = .agg #[.bool s1, .slice a1 c1 l1, .bool s2, .slice a2 c2 l2]
  | _ => RtIn w' v ((m i).getD 0 + q) (K + k2 + 1)) rfl rfl (by kernel_rfl) (by kernel_rfl) (by kernel_rfl) (by kernel_rfl) ?st ?steps ?fin
 case st =>
  intro i9 v u1 u2 h hb
  match i9 with
  | 0 => exact h
  | 1 => exact h
  | 2 => exact h
  | 3 => exact h
  | 4 => exact (show RtIn u1 v ((m i).getD 0) K from h).below hb
  | 5 => exact h
  | 6 => exact (show RtIn u1 v ((m i).getD 0 + q) (K + k2 + 1) from h).below hb
  | _ + 7 => exact (show RtIn u1 v ((m i).getD 0 + q) (K + k2 + 1) from h).below hb
 case steps =>
  refine Flow.Steps.cons (FlowR.Step.of rfl ?s0) (Flow.Steps.cons (FlowR.Step.of rfl ?s1) (Flow.Steps.cons (FlowR.Step.of rfl ?s2) (Flow.Steps.cons (FlowR.Step.of rfl ?s3) (Flow.Steps.cons (FlowR.Step.of rfl ?s4) (Flow.Steps.cons (FlowR.Step.of rfl ?s5) (Flow.Steps.cons (FlowR.Step.of rfl ?s6) Flow.Steps.nil))))))
  case s0 =>
   intro xs w' hb hT K9 hK9
   clear hT
   simp only [zFp, zAp, zLa, zLb, zLc, Nat.reduceAdd, zNz] at hK9 ⊢
   have hw := Flow.hwD HW0.out hb
   have y0 := cell_below hw HCM.out
   go_simp
   exact hK9 _ _ (Below.refl _ _) rfl
  case s1 =>
   intro xs w' hb hT K9 hK9
   clear hT
   simp only [zFp, zAp, zLa, zLb, zLc, Nat.reduceAdd, zNz] at hK9 ⊢
   have hw := Flow.hwD HW0.out hb
   go_simp
   exact hK9 _ _ (Below.refl _ _) rfl
  case s2 =>
   intro xs w' hb hT K9 hK9
   clear hT
   simp only [zFp, zAp, zLa, zLb, zLc, Nat.reduceAdd, zNz] at hK9 ⊢
   have hw := Flow.hwD HW0.out hb
   have y0 := cell_below hw HCM.out
   go_simp
   exact hK9 _ _ (Below.refl _ _) rfl
  case s3 =>
   intro xs w' hb hT K9 hK9
   clear hT
   simp only [zFp, zAp, zLa, zLb, zLc, Nat.reduceAdd, zNz] at hK9 ⊢
   have hw := Flow.hwD HW0.out hb
   go_simp
   exact hK9 _ _ (Below.refl _ _) rfl
  case s4 =>
   intro xs w' hb hT K9 hK9
   have h2 : (xs 2) = .map (some b) := hT 2 (by kernel_rfl)
   have h3 : (xs 3) = .int .i64 i := hT 3 (by kernel_rfl)
   clear hT
   simp only [zFp, zAp, zLa, zLb, zLc, Nat.reduceAdd, zNz] at hK9 ⊢
   have hw := Flow.hwD HW0.out hb
   (try simp only [h2] at hK9)
   (try simp only [h3] at hK9)
   obtain ⟨u, hrun, hu⟩ := (HM.out.below hw).look HI.out.1 HI.out.2
   go_simp
   exact hK9 _ _ (Below.refl _ _) hu
  case s5 =>
   intro xs w' hb hT K9 hK9
   clear hT
   simp only [zFp, zAp, zLa, zLb, zLc, Nat.reduceAdd, zNz] at hK9 ⊢
   have hw := Flow.hwD HW0.out hb
   have kb := (hw.block bk (lt_of_block HKK.out)).trans HKK.out
   have y0 := block_cell kb 0
   have y1 := block_cell kb 1
   have y2 := block_cell kb 2
   have y3 := block_cell kb 3
   clear kb
   simp at y0 y1 y2 y3
   go_simp
   exact hK9 _ _ (Below.refl _ _) rfl
  case s6 =>
   intro xs w' hb hT K9 hK9
   have h4 : RtIn w' (xs 4) ((m i).getD 0) K := hT 4 (by kernel_rfl)
   have h5 : (xs 5) = .agg #[.bool s1, .slice a1 c1 l1, .bool s2, .slice a2 c2 l2] := hT 5 (by kernel_rfl)
   clear hT
   simp only [zFp, zAp, zLa, zLb, zLc, Nat.reduceAdd, zNz] at hK9 ⊢
   have hw := Flow.hwD HW0.out hb
   (try simp only [h5] at hK9)
   go_simp
   go_at_call 72
   refine (ratAdd_any h4 (HQ.out.below hw) hK2 hk2 (by omega)).mono ?_
   rintro e w3 ⟨v3, rfl, hi3, hb3⟩
   exact hK9 _ _ hb3 hi3
 case fin =>
  intro xs w' hb hT
  have hw := Flow.hwD HW0.out hb
  have h0 : (xs 0) = .map (some b) := hT 0 (by rfl)
  have h1 : (xs 1) = .int .i64 i := hT 1 (by rfl)
  have h6 : RtIn w' (xs 6) ((m i).getD 0 + q) (K + k2 + 1) := hT 6 (by rfl)
  clear hT
  simp only [zFp, zAp, zLa, zLb, zLc, Nat.reduceAdd, zNz, FlowR.restL, FlowR.orM, Bool.false_or]
  simp only [h0, h1]
  clear h0 h1
  have hm9 := ((HM.out.below hw).more (show K ≤ K + k2 + 1 by omega))
  obtain ⟨w5, hrun, hm5, hg5, hs5⟩ := hm9.store (by unfold maxLen; omega) HI.out.1 HI.out.2 h6
  have hgb : w.grownBy w5 (some b) := by
   have h1 := HAL.out.trans (hw.mono HAL.out.size)
   exact ⟨hg5.os.trans h1.os, hg5.tape.trans h1.tape, hg5.output.trans h1.output, Nat.le_trans h1.size hg5.size, fun k hk hne => (hg5.block k (Nat.lt_of_lt_of_le hk h1.size) hne).trans (h1.block k hk)⟩
  have hst := (Stays.of_below (HAL.out.trans (hw.mono HAL.out.size))).trans hs5
  have HF := Lib.hid (And.intro hm5 (And.intro hgb hst))
  clear h6 hm9 hm5 hg5 hs5 hgb hst hw hb
  go_wp2_with fail
  go_end0
  exact ⟨rfl, HF.out.1, HF.out.2.1, HF.out.2.2⟩
end Go.Proofs.YtgofihilkobenaaGreatDoor
/- The model's form. -/
set_option maxRecDepth 100000
namespace Go.Proofs.YtgofihilkobenaaGreatDoor
open List renaming setIfInBounds_toArray → zLa, set_cons_zero → zLb, set_cons_succ → zLc
open FlowR renaming putSel → zFp
open Act renaming put → zAp
open Nat renaming zero_add → zNz
open Go.RowKit Go.Num Go.Flow Go.Maps Go.WideMaps Go.Dtm
set_option maxHeartbeats 8000000

theorem qform_any {w : World} (hg : Glob w) {c : Int} (h0 : -9223372036854775808 ≤ c) (h1 : c ≤ 9223372036854775807) {b n K : Nat} {m : Int → Option Rat} (hm : RMapIn w b n K m) (hK : K ≤ 900000) :
  Calls Tryz.prog 44 #[.int .i64 c, .map (some b)] w fun e w' => ∃ v, e = .returned v ∧ FormIn w' w.heap.size v (numText (c : Rat)) (sumTerms m 64) ∧ Below w.heap.size w w' := by
 obtain ⟨wa, hwa⟩ : ∃ wa, wa = w.alloc (.cells #[.string ⟨#[]⟩, .slice none 0 0] 78) := ⟨_, rfl⟩
 obtain ⟨bc, hbc⟩ : ∃ b, b = w.heap.size := ⟨_, rfl⟩
 have hal : Below w.heap.size w wa := by rw [hwa]; exact (Below.refl _ w).alloc (Nat.le_refl _) _
 have k0 : wa.heap[bc]? = some (.cells #[.string ⟨#[]⟩, .slice none 0 0] 78 (0, 0)) := by rw [hwa, hbc]; exact heap_alloc_new w _
 have HGbc := Lib.hid (show w.heap.size ≤ bc by omega)
 have HFR := Lib.hid (ratFrom_any (w := wa) h0 h1)
 have HAL := Lib.hid hal
 have HK0 := Lib.hid k0
 have HM := Lib.hid (hm.below hal)
 have HG := Lib.hid (hg.below hal)
 have HW := Lib.hid (And.intro hwa hbc)
 clear hal hwa hbc k0 hm hg
 go_enter Tryz.func44, Tryz.ntmps44
 go_upto_region 1 with fail
 rw [← HW.out.1, ← HW.out.2]
 clear HW
 go_wp2_with fail
 refine HFR.out.mono ?_
 rintro e w1 ⟨v1, rfl, hr1, hb1⟩
 have HNM := Lib.hid (Number_any hr1 (by omega) (HG.out.below hb1))
 have HB1 := Lib.hid hb1
 clear hr1 hb1
 go_wp2_with fail
 refine HNM.out.mono ?_
 rintro e w2 ⟨rfl, hb2⟩
 have HB2 := Lib.hid (HB1.out.trans (hb2.mono HB1.out.size))
 clear hb2
 go_upto_region 2 with fail
 obtain ⟨S, hS⟩ : ∃ S : ByteArray, S = ⟨(numText (c : Rat)).toArray⟩ := ⟨_, rfl⟩
 rw [← hS]
 obtain ⟨w3, hw3⟩ : ∃ x, x = w2.alloc (.cells #[.string S, .slice none 0 0] 78) := ⟨_, rfl⟩
 obtain ⟨bf, hbf⟩ : ∃ b, b = w2.heap.size := ⟨_, rfl⟩
 rw [← hw3, ← hbf]
 have hl3 : Below w2.heap.size w2 w3 := by rw [hw3]; exact (Below.refl _ w2).alloc (Nat.le_refl _) _
 have HGF := Lib.hid (show wa.heap.size ≤ bf by rw [hbf]; exact HB2.out.size)
 have kf : w3.heap[bf]? = some (.cells #[.string S, .slice none 0 0] 78 (0, 0)) := by rw [hw3, hbf]; exact heap_alloc_new w2 _
 have HB3 := Lib.hid (HB2.out.trans (hl3.mono HB2.out.size))
 have HKF := Lib.hid kf
 have HS := Lib.hid hS
 clear hw3 hl3 kf hS hbf
 go_wp2_with fail
 go_loopg [13] 64 (fun gk x wr => ∃ (k : Nat) (tv : Value), k + gk = 64 ∧ x = .int .i64 k ∧ Hid (wr.heap[bf]? = some (.cells #[.string S, tv] 78 (0, 0)) ∧ TermRow wr wa.heap.size tv (sumTerms m k)) ∧ Hid (Below wa.heap.size wa wr))
 case atStart => exact ⟨0, _, rfl, rfl, Lib.hid ⟨HKF.out, World.ownsRow_nil _ _ _ _⟩, HB3⟩
 case round =>
  obtain ⟨k, tv, hk, rfl, hkf, hbw⟩ := hrel
  by_cases hlt : k < 64
  ·have e1 : ((k : Int) < 64) = True := eq_true (by omega)
   have hmr := HM.out.below hbw.out
   obtain ⟨D, hown, hD⟩ := hmr
   have HOWN := Lib.hid hown
   have HD := Lib.hid (hD (k : Int))
   clear hown hD
   go_wp2_with (at_lookup; refine wpList_lookup_own_ok _ rfl _ _ 100 rfl 3 65 (int_keyed Tryz.underlying3) Tryz.underlying100 asIs (z := zeroRat) ?hz (.held zeroRat) [] rfl b n D rfl HOWN.out _ (.int .i64 (k : Int)) rfl (key_int (by omega) (by omega)) ?_)
   case hz => exact zeroRat_run _
   intro v ps hv
   obtain ⟨q, hq⟩ : ∃ q, q = (m (k : Int)).getD 0 := ⟨_, rfl⟩
   have hvv : Maps.has D (.int .i64 (k : Int)) = (m (k : Int)).isSome ∧ RtIn wr v q K := by
    have h := HD.out
    unfold asIs at hv
    simp only [Option.some.injEq, Prod.mk.injEq] at hv
    cases hm : m (k : Int) with
    | none =>
     rw [hm] at h
     have h2 := hv.1
     rw [Maps.atKey_of_not_has h] at h2
     cases h2
     rw [hq, hm]
     exact ⟨by rw [h]; rfl, zero_rt wr K⟩
    | some r =>
     rw [hm] at h
     obtain ⟨h3, u, h4, h5⟩ := h
     have h2 := hv.1
     rw [h4] at h2
     cases h2
     rw [hq, hm]
     exact ⟨by rw [h3]; rfl, h5⟩
   obtain ⟨s1, a1, c1, l1, s2, a2, c2, l2, rfl⟩ := rt_shape hvv.2
   obtain ⟨ok, hok⟩ : ∃ b, b = (m (k : Int)).isSome := ⟨_, rfl⟩
   rw [← hok] at hvv
   rw [hvv.1]
   have HR := Lib.hid hvv.2
   have HQ := Lib.hid (And.intro hq hok)
   clear hv hvv hq hok
   go_upto_region 6 with fail
   obtain ⟨w4, hw4⟩ : ∃ x, x = wr.alloc (.cells #[.bool s1, .slice a1 c1 l1, .bool s2, .slice a2 c2 l2] 65) := ⟨_, rfl⟩
   obtain ⟨bq, hbq⟩ : ∃ b, b = wr.heap.size := ⟨_, rfl⟩
   rw [← hw4, ← hbq]
   have hl4 : Below wr.heap.size wr w4 := by rw [hw4]; exact (Below.refl _ wr).alloc (Nat.le_refl _) _
   have kq : w4.heap[bq]? = some (.cells #[.bool s1, .slice a1 c1 l1, .bool s2, .slice a2 c2 l2] 65 (0, 0)) := by rw [hw4, hbq]; exact heap_alloc_new wr _
   have hkf4 := (hl4.block bf (lt_of_block hkf.out.1)).trans hkf.out.1
   have HT4 := Lib.hid (hkf.out.2.below hl4)
   have HB4 := Lib.hid (hbw.out.trans (hl4.mono hbw.out.size))
   have HR4 := Lib.hid (HR.out.below hl4)
   have HQ4 := Lib.hid kq
   have HF4 := Lib.hid hkf4
   clear hw4 hbq hl4 kq hkf4 hkf hbw HR
   go_cut [27, 13] from 13 to 37 (fun d x wx => d = .bool (ok && decide (q.num ≠ 0)) ∧ x = .int .i64 (k : Int) ∧ Below w4.heap.size w4 wx)
   case first =>
    cases ok with
    | false =>
     go_wp2_with fail
     go_meet
     exact ⟨rfl, rfl, Below.refl _ _⟩
    | true =>
     have z0 := block_cell HQ4.out 0
     have z1 := block_cell HQ4.out 1
     have z2 := block_cell HQ4.out 2
     have z3 := block_cell HQ4.out 3
     simp at z0 z1 z2 z3
     have HSG := Lib.hid (ratSign_any HR4.out)
     go_wp2_with fail
     refine HSG.out.mono ?_
     rintro e w5 ⟨rfl, hb5⟩
     have HB5 := Lib.hid hb5
     clear hb5
     go_wp2_with fail
     go_meet
     exact ⟨congrArg Value.bool (by rw [Bool.true_and]; exact cmp_nez), rfl, HB5.out⟩
   case rest =>
    obtain ⟨rfl, rfl, hb5⟩ := hcut
    have HB5 := Lib.hid hb5
    clear hb5
    have HT5 := Lib.hid (HT4.out.below HB5.out)
    have hkf5 := (HB5.out.block bf (lt_of_block HF4.out)).trans HF4.out
    have HF5 := Lib.hid hkf5
    have HBF := Lib.hid (HB4.out.trans (HB5.out.mono HB4.out.size))
    clear hkf5
    have HLT := Lib.hid hlt
    clear hlt
    cases hfl : (ok && decide (q.num ≠ 0)) with
    | true =>
     obtain ⟨ao, tn, tc, rfl⟩ := HT5.out.shape
     have hkq := (HB5.out.block bq (lt_of_block HQ4.out)).trans HQ4.out
     have HKQ := Lib.hid hkq
     have HRQ := Lib.hid (HR4.out.below HB5.out)
     obtain ⟨NT, hNT⟩ : ∃ S : ByteArray, S = ⟨(numText q).toArray⟩ := ⟨_, rfl⟩
     have HNT := Lib.hid hNT
     have HTS := Lib.hid (show sumTerms m (k + 1) = sumTerms m k ++ [(k, numText q)] by
      have h := hfl
      rw [HQ.out.1, HQ.out.2] at h
      rw [sumTerms, HQ.out.1]
      cases hm : m (k : Int) with
      | none => rw [hm] at h; simp at h
      | some r =>
       rw [hm] at h
       have h0 : r.num ≠ 0 := by simpa using h
       simp only [if_neg h0]
       rfl)
     obtain ⟨i0, hi, hz0, hz1, hz2⟩ := info_parts infoTerm
     have HI := Lib.hid (And.intro hi (And.intro hz0 (And.intro hz1 hz2)))
     have HTL := Lib.hid (terms_len m k)
     have HOB := Lib.hid (HT5.out.off HF5.out (by decide))
     have HWC := Lib.hid (Below.refl wc.heap.size wc)
     have hK900 := hK
     clear hi hz0 hz1 hz2 hkq hNT hfl
     go_upto_region 7 with fail
     refine FlowR.wp_region_sel (fun a b => Below a.heap.size a b) (fun a => Below.refl _ a) (fun _ _ _ h k => h.trans (k.mono h.size)) [0, 1, 2, 3, 4, 5, 6] [false, false, false, false, false, false, false, false, false, false] [true, true, true, true, true, true, true, false, false, false] (fun i v w' => match i with
      | 0 => v = .pointer (some ⟨bf, 1, none⟩)
      | 1 => v = .slice ao tn tc
      | 2 => v = .int .i64 (k : Int)
      | 3 => v = .agg #[.bool s1, .slice a1 c1 l1, .bool s2, .slice a2 c2 l2]
      | 4 => v = .string NT
      | 5 => v = .agg #[.int .i64 (k : Int), .string NT]
      | _ => ∃ b, v = .slice (some ⟨b, 0, none⟩) 1 1 ∧ w'.heap[b]? = some (.cells #[.int .i64 (k : Int), .string NT] 146 (0, 0)) ∧ wc.heap.size ≤ b) rfl rfl (by kernel_rfl) (by kernel_rfl) (by kernel_rfl) (by kernel_rfl) ?st ?steps ?fin
     case st =>
      intro i v w1 w2 h hb
      match i with
      | 0 => exact h
      | 1 => exact h
      | 2 => exact h
      | 3 => exact h
      | 4 => exact h
      | 5 => exact h
      | 6 => exact by obtain ⟨b, e, hk, hl⟩ := (show ∃ b, v = .slice (some ⟨b, 0, none⟩) 1 1 ∧ w1.heap[b]? = some (.cells #[.int .i64 (k : Int), .string NT] 146 (0, 0)) ∧ wc.heap.size ≤ b from h); exact ⟨b, e, (hb.block b (lt_of_block hk)).trans hk, hl⟩
      | _ + 7 => exact by obtain ⟨b, e, hk, hl⟩ := (show ∃ b, v = .slice (some ⟨b, 0, none⟩) 1 1 ∧ w1.heap[b]? = some (.cells #[.int .i64 (k : Int), .string NT] 146 (0, 0)) ∧ wc.heap.size ≤ b from h); exact ⟨b, e, (hb.block b (lt_of_block hk)).trans hk, hl⟩
     case steps =>
      refine Flow.Steps.cons (FlowR.Step.of rfl ?s0) (Flow.Steps.cons (FlowR.Step.of rfl ?s1) (Flow.Steps.cons (FlowR.Step.of rfl ?s2) (Flow.Steps.cons (FlowR.Step.of rfl ?s3) (Flow.Steps.cons (FlowR.Step.of rfl ?s4) (Flow.Steps.cons (FlowR.Step.of rfl ?s5) (Flow.Steps.cons (FlowR.Step.of rfl ?s6) Flow.Steps.nil))))))
      case s0 =>
       intro xs w' hb hT K hK
       clear hT
       simp only [zFp, zAp, zLa, zLb, zLc, Nat.reduceAdd, zNz] at hK ⊢
       have hw := Flow.hwD HWC.out hb
       go_simp
       exact hK _ _ (Below.refl _ _) rfl
      case s1 =>
       intro xs w' hb hT K hK
       have h0 : (xs 0) = .pointer (some ⟨bf, 1, none⟩) := hT 0 (by kernel_rfl)
       clear hT
       simp only [zFp, zAp, zLa, zLb, zLc, Nat.reduceAdd, zNz] at hK ⊢
       have hw := Flow.hwD HWC.out hb
       have kb := (hw.block bf (lt_of_block HF5.out)).trans HF5.out
       have y0 := block_cell kb 1
       clear kb
       simp at y0
       (try simp only [h0] at hK)
       go_simp
       exact hK _ _ (Below.refl _ _) rfl
      case s2 =>
       intro xs w' hb hT K hK
       clear hT
       simp only [zFp, zAp, zLa, zLb, zLc, Nat.reduceAdd, zNz] at hK ⊢
       have hw := Flow.hwD HWC.out hb
       go_simp
       exact hK _ _ (Below.refl _ _) rfl
      case s3 =>
       intro xs w' hb hT K hK
       clear hT
       simp only [zFp, zAp, zLa, zLb, zLc, Nat.reduceAdd, zNz] at hK ⊢
       have hw := Flow.hwD HWC.out hb
       have kb := (hw.block bq (lt_of_block HKQ.out)).trans HKQ.out
       have y0 := block_cell kb 0
       have y1 := block_cell kb 1
       have y2 := block_cell kb 2
       have y3 := block_cell kb 3
       clear kb
       simp at y0 y1 y2 y3
       go_simp
       exact hK _ _ (Below.refl _ _) rfl
      case s4 =>
       intro xs w' hb hT K hK
       have h3 : (xs 3) = .agg #[.bool s1, .slice a1 c1 l1, .bool s2, .slice a2 c2 l2] := hT 3 (by kernel_rfl)
       clear hT
       simp only [zFp, zAp, zLa, zLb, zLc, Nat.reduceAdd, zNz] at hK ⊢
       have hw := Flow.hwD HWC.out hb
       (try simp only [h3] at hK)
       go_simp
       go_at_call 27
       refine (Number_any (HRQ.out.below hw) hK900 (HG.out.below (HBF.out.trans (hw.mono HBF.out.size)))).mono ?_
       rintro e w3 ⟨rfl, hb3⟩
       exact hK _ _ hb3 (by rw [HNT.out])
      case s5 =>
       intro xs w' hb hT K hK
       have h2 : (xs 2) = .int .i64 (k : Int) := hT 2 (by kernel_rfl)
       have h4 : (xs 4) = .string NT := hT 4 (by kernel_rfl)
       clear hT
       simp only [zFp, zAp, zLa, zLb, zLc, Nat.reduceAdd, zNz] at hK ⊢
       have hw := Flow.hwD HWC.out hb
       (try simp only [h2] at hK)
       (try simp only [h4] at hK)
       go_simp
       exact hK _ _ (Below.refl _ _) rfl
      case s6 =>
       intro xs w' hb hT K hK
       have h5 : (xs 5) = .agg #[.int .i64 (k : Int), .string NT] := hT 5 (by kernel_rfl)
       clear hT
       simp only [zFp, zAp, zLa, zLb, zLc, Nat.reduceAdd, zNz] at hK ⊢
       have hw := Flow.hwD HWC.out hb
       (try simp only [h5] at hK)
       go_simp
       exact hK _ _ ((Below.refl _ _).alloc (Nat.le_refl _) _) ⟨_, rfl, heap_alloc_new _ _, by have h1 := (Below.refl wc.heap.size wc).drew.size; have h2 := hw.size; omega⟩
     case fin =>
      intro xs w' hb hT
      have hw := Flow.hwD HWC.out hb
      have h1 : (xs 1) = .slice ao tn tc := hT 1 (by rfl)
      have h6 : ∃ b, (xs 6) = .slice (some ⟨b, 0, none⟩) 1 1 ∧ w'.heap[b]? = some (.cells #[.int .i64 (k : Int), .string NT] 146 (0, 0)) ∧ wc.heap.size ≤ b := hT 6 (by rfl)
      clear hT
      simp only [zFp, zAp, zLa, zLb, zLc, Nat.reduceAdd, zNz, FlowR.restL, FlowR.orM, Bool.false_or]
      obtain ⟨b6, e6, k6, hl6⟩ := h6
      simp only [h1, e6]
      clear h1 e6 hb
      have kf7 := (hw.block bf (lt_of_block HF5.out)).trans HF5.out
      have TT := Lib.hid (HT5.out.below hw)
      have HW7 := Lib.hid hw
      have HKF7 := Lib.hid kf7
      have HK6 := Lib.hid (And.intro k6 hl6)
      clear hw kf7 k6 hl6
      refine wpList_append_own _ rfl _ _ 76 rfl wa.heap.size 146 i0 _ 2 24 Tryz.underlying76 HI.out.1 HI.out.2.1 HI.out.2.2.1 HI.out.2.2.2 rfl (by decide) _ _ _ rfl TT.out ⟨b6, 0, none⟩ 1 1 [.int .i64 (k : Int), .string NT] rfl rfl ?c1 ?c2 ?c3 ?c4 ?c5 ?_
      case c1 => exact World.news_of_block HK6.out.1
      case c2 => simp [Value.oneCell']
      case c3 => have := HTL.out; have := HLT.out; unfold maxLen; omega
      case c4 => have := HTL.out; have := HLT.out; omega
      case c5 => have h1 := HBF.out.size; have h2 := HW7.out.size; omega
      intro v7 w7 hown7 hg7 _
      have k7 := (hg7.block bf (by have h1 := lt_of_block HF5.out; have h2 := HW7.out.size; omega) (fun e => HOB.out bf e.symm rfl)).trans HKF7.out
      have y1 := block_cell k7 1
      have g1 := block_free k7 1
      simp at y1
      have hb7 := (HBF.out.trans (HW7.out.mono HBF.out.size)).grown hg7 (by have h1 := HBF.out.size; have h2 := HW7.out.size; omega) (fun q e => (World.ownsRow.lt TT.out q e).1)
      have hr7 : TermRow w7 wa.heap.size v7 (sumTerms m (k + 1)) := by
       rw [HTS.out]
       rw [HNT.out] at hown7
       exact TermRow.snoc hown7
      obtain ⟨a7, n7, c7, rfl⟩ := hr7.shape
      have HO7 := Lib.hid (hr7.off k7 (by decide))
      have HR7 := Lib.hid hr7
      clear hr7
      have H7 := Lib.hid (And.intro hown7 (And.intro k7 hb7))
      clear hown7 hg7 k7 hb7
      go_wp2_with fail
      go_roundg (64 - (k + 1))
      case measure => have := HLT.out; omega
      case rel => exact ⟨k + 1, _, by have := HLT.out; omega, by congr 1, Lib.hid ⟨two_set1 H7.out.2.1 _, TermRow.setNe HR7.out HO7.out 1 _⟩, Lib.hid (H7.out.2.2.setCell (p := ⟨bf, 1, none⟩) HGF.out _)⟩
    | false =>
     have HTE := Lib.hid (show sumTerms m (k + 1) = sumTerms m k by
      have h := hfl
      rw [HQ.out.1, HQ.out.2] at h
      rw [sumTerms]
      cases hm : m (k : Int) with
      | none => exact List.append_nil _
      | some r =>
       rw [hm] at h
       have h0 : r.num = 0 := by simpa using h
       simp only [h0, if_pos]
       exact List.append_nil _)
     clear hfl
     go_wp2_with fail
     go_roundg (64 - (k + 1))
     case measure => have := HLT.out; omega
     case rel => exact ⟨k + 1, tv, by have := HLT.out; omega, by congr 1, Lib.hid ⟨HF5.out, by rw [HTE.out]; exact HT5.out⟩, HBF⟩
  ·have e1 : ((k : Int) < 64) = False := eq_false (by omega)
   obtain rfl : k = 64 := by omega
   obtain ⟨ao, tn, tc, rfl⟩ := hkf.out.2.shape
   have y0 := block_cell hkf.out.1 0
   have y1 := block_cell hkf.out.1 1
   simp at y0 y1
   have hkc := (hbw.out.block bc (lt_of_block HK0.out)).trans HK0.out
   have z0 := block_cell hkc 0
   have z1 := block_cell hkc 1
   have f0 := block_free hkc 0
   have f1 := block_free hkc 1
   simp at z0 z1
   have hr := (hkf.out.2.set (lt_of_block HK0.out) 0 (.string S)).set (lt_of_block HK0.out) 1 (.slice ao tn tc)
   have hb := ((HAL.out.trans (hbw.out.mono HAL.out.size)).setCell (p := ⟨bc, 0, none⟩) HGbc.out (.string S)).setCell (p := ⟨bc, 1, none⟩) HGbc.out (.slice ao tn tc)
   have HF := Lib.hid (And.intro hr hb)
   clear hr hb hkc hkf
   go_wp2_with fail
   refine bodyPost_ret (v := .agg #[.string S, .slice ao tn tc]) (by simp [results, Tryz.results44, go_sem, z0, z1]) rfl ⟨_, rfl, ⟨_, by rw [HS.out], ?_⟩, HF.out.2⟩
   exact World.ownsRow.mono HF.out.1 HAL.out.size
end Go.Proofs.YtgofihilkobenaaGreatDoor
/- The model's place. -/
set_option maxRecDepth 100000
namespace Go.Proofs.YtgofihilkobenaaGreatDoor
open List renaming setIfInBounds_toArray → zLa, set_cons_zero → zLb, set_cons_succ → zLc
open FlowR renaming putSel → zFp
open Act renaming put → zAp
open Nat renaming zero_add → zNz
open Go.RowKit Go.Num Go.Flow Go.Maps Go.WideMaps Go.Dtm
set_option maxHeartbeats 8000000
set_option linter.unusedVariables false

/-- A side that a feature has. -/
def sideOk (fs : List Feat) (f side : Int) : Bool := decide (-1 ≤ side ∧ side ≤ 1 ∧ ((fs.getD f.toNat Feat.none).kind = 2 ∨ side = 0))
theorem qplace_any {w : World} {af : Option Addr} {cf : Nat} {az : Option Addr} {cz : Nat} {fs : List Feat} {zs : List Zn} (h : SchemeIn w af cf az cz fs zs) (hck : check fs zs = 0) {f : Int} (hf0 : 0 ≤ f) (hf : f < (fs.length : Int)) (side : Int) {tm : Int} (ht0 : -1 ≤ tm) (ht1 : tm ≤ 1)
  {b n K : Nat} {m : Int → Option Rat} (hm : RMapIn w b n K m) (hn : n ≤ 1000) (hK2 : 2 ≤ K) (hK : K ≤ 10000) :
  Calls Tryz.prog 43 #[.agg #[.slice af fs.length cf, .slice az zs.length cz], .int .i64 f, .int .i64 side, .int .i64 tm, .map (some b)] w fun e w' => e = .returned (.bool (sideOk fs f side)) ∧ RMapIn w' b (n + 102) (K + 714) (if sideOk fs f side = true then qplaceTo (varsTo fs zs fs.length) (chainOf fs fs.length f) f side tm (decide ((fs.getD f.toNat Feat.none).kind = 2)) m else m) ∧ Turned b w w' := by
 have hsm := check_small hck
 obtain ⟨V, hV⟩ : ∃ V, V = varsTo fs zs fs.length := ⟨_, rfl⟩
 have hvl := vars_len fs zs fs.length
 obtain ⟨C, hC⟩ : ∃ C, C = chainOf fs fs.length f := ⟨_, rfl⟩
 have hcl := chain_len fs fs.length f
 have hch := fun (W : World) (hW : SchemeIn W af cf az cz fs zs) => qchain_any hW (check_down hck) (by omega) hf
 have hix := fun (W : World) (hW : SchemeIn W af cf az cz fs zs) (i k : Int) => qat_any hW hck i k
 obtain ⟨ft, hft⟩ : ∃ x, x = fs.getD f.toNat Feat.none := ⟨_, rfl⟩
 have hkd := (feat_right hck (show f.toNat < fs.length by omega)).2.1
 obtain ⟨OK, hOK⟩ : ∃ x, x = sideOk fs f side := ⟨_, rfl⟩
 have hok2 : OK = decide (-1 ≤ side ∧ side ≤ 1 ∧ (ft.kind = 2 ∨ side = 0)) := by rw [hOK, hft]; rfl
 rw [← hft] at hkd ⊢
 rw [← hOK]
 rw [← hV] at hvl ⊢
 rw [← hC] at hcl ⊢
 obtain ⟨RM, hRM⟩ : ∃ x, x = (if OK = true then qplaceTo V C f side tm (decide (ft.kind = 2)) m else m) := ⟨_, rfl⟩
 rw [← hRM]
 simp only [← hC] at hch
 simp only [← hV] at hix
 have hfe := h.feats.2.2 (by omega)
 obtain ⟨nf, hnf⟩ : ∃ n, n = fs.length := ⟨_, rfl⟩
 obtain ⟨nz, hnz⟩ : ∃ n, n = zs.length := ⟨_, rfl⟩
 obtain ⟨cl, hcl2⟩ : ∃ n, n = C.length := ⟨_, rfl⟩
 obtain ⟨wa, hwa⟩ : ∃ wa, wa = (w.alloc (.cells #[.slice af nf cf, .slice az nz cz] 26)).alloc (.cells #[.map (some b)] 100) := ⟨_, rfl⟩
 obtain ⟨ba, hba⟩ : ∃ b, b = w.heap.size := ⟨_, rfl⟩
 obtain ⟨bm, hbm⟩ : ∃ b, b = w.heap.size + 1 := ⟨_, rfl⟩
 have hal : Below w.heap.size w wa := by rw [hwa]; exact ((Below.refl _ w).alloc (Nat.le_refl _) _).alloc (by simp) _
 obtain ⟨k0, k2⟩ := two_made w #[.slice af nf cf, .slice az nz cz] #[.map (some b)] 26 100
 rw [← hwa, ← hba] at k0
 rw [← hwa, ← hbm] at k2
 have s0 := block_cell k0 0
 have s1 := block_cell k0 1
 have c2 := block_cell k2 0
 simp at s0 s1 c2
 obtain ⟨fb, fo, haf, -, hfc⟩ := hfe
 have hx1 := (hfc f.toNat (by omega)).2.1
 rw [← hft] at hx1
 have x1 := cell_below hal hx1
 have hcap : nf ≤ cf ∧ cf ≤ 9223372036854775807 := by rw [hnf]; exact ⟨h.feats.1, h.feats.2.1⟩
 rw [← hnf, ← hnz] at hch hix
 rw [← hnf] at hcl hvl hf hsm
 rw [← hnf, ← hnz]
 rw [← hcl2] at hcl
 obtain ⟨fn, rfl⟩ : ∃ k : Nat, f = (k : Int) := ⟨f.toNat, by omega⟩
 rw [Int.toNat_natCast] at x1
 subst haf
 have HX1 := Lib.hid x1
 have HS := Lib.hid (h.below hal)
 have HAL := Lib.hid (show Turned b w wa from (Turned.refl b w).below hal)
 have HSC := Lib.hid (And.intro s0 (And.intro s1 c2))
 have HKA := Lib.hid k0
 have HCH := Lib.hid hch
 have HIX := Lib.hid hix
 have HM := Lib.hid (hm.below hal)
 have HN := Lib.hid (And.intro hvl (And.intro hcl (And.intro hsm.1 (And.intro hcl2 (And.intro hn (And.intro hK2 hK))))))
 have HTM := Lib.hid (And.intro ht0 ht1)
 have HVB := Lib.hid (fun (i k : Int) => varAt_le V i k)
 have HOK := Lib.hid hok2
 have HRM := Lib.hid hRM
 have HKD := Lib.hid hkd
 have HW := Lib.hid (And.intro hwa (And.intro hba hbm))
 clear hal hwa hba hbm k0 k2 h hch hix hm hvl hcl hsm hcl2 hn hK2 hK ht0 ht1 hnf hnz hV hC c2 hck hft hkd hOK hok2 hRM hfc hx1
 go_enter Tryz.func43, Tryz.ntmps43
 go_upto_region 1 with fail
 rw [← HW.out.1, ← HW.out.2.2, ← HW.out.2.1]
 clear HW
 by_cases hb1 : side < -1
 ·have e1 : (side < -1) = True := eq_true hb1
  have HO := Lib.hid (show OK = false by rw [HOK.out]; exact decide_eq_false (by omega))
  go_wp2_with fail
  go_ret
  exact ⟨by rw [HO.out]; rfl, by rw [HRM.out, HO.out, if_neg (by decide)]; exact ((HM.out.more (by omega)).mono (by omega)), HAL.out⟩
 by_cases hb2 : 1 < side
 ·have e1 : (side < -1) = False := eq_false hb1
  have e2 : ((1 : Int) < side) = True := eq_true hb2
  have HO := Lib.hid (show OK = false by rw [HOK.out]; exact decide_eq_false (by omega))
  go_wp2_with fail
  go_ret
  exact ⟨by rw [HO.out]; rfl, by rw [HRM.out, HO.out, if_neg (by decide)]; exact ((HM.out.more (by omega)).mono (by omega)), HAL.out⟩
 have e1 : (side < -1) = False := eq_false hb1
 have e2 : ((1 : Int) < side) = False := eq_false hb2
 have HSD := Lib.hid (show -1 ≤ side ∧ side ≤ 1 by omega)
 by_cases hkS : ft.kind = 2
 ·have ek : (ft.kind == 2) = true := by rw [hkS]; rfl
  have HOKT := Lib.hid (show OK = true by rw [HOK.out]; exact decide_eq_true (by omega))
  clear hb1 hb2
  go_wp2_with fail
  refine (HCH.out wa HS.out).mono ?_
  rintro e w1 ⟨vc, rfl, hr1, hb1⟩
  obtain ⟨ao, c, rfl, hc1, hc2, hc3, hc4⟩ := row1_reads hr1
  rw [← HN.out.2.2.2.1] at hc1 hc4
  rw [← HN.out.2.2.2.1]
  have hT1 := (Turned.refl b wa).below hb1
  have HT1 := Lib.hid hT1
  have HM1 := Lib.hid (HM.out.below hb1)
  have HC4 := Lib.hid hc4
  have s0 := cell_below hb1 HSC.out.1
  have s1 := cell_below hb1 HSC.out.2.1
  clear hr1 hb1 hT1 hc3 hc4 hc2 x1
  have HC1 := Lib.hid hc1
  have hcl9 : cl ≤ 100 := by have := HN.out; omega
  clear hc1
  go_wp2_with fail
  clear s0 s1
  go_loopg [44] cl (fun gk x wr => ∃ k : Nat, k + gk = cl ∧ x = .int .i64 k ∧ Hid (RMapIn wr b (n + k) (K + 3 * k) (qaddChain V tm (C.take k) m)) ∧ Hid (Turned b w1 wr))
  case atStart => exact ⟨0, by omega, rfl, Lib.hid HM1.out, Lib.hid (Turned.refl _ _)⟩
  case round =>
   obtain ⟨k, hk, rfl, hmr, htr⟩ := hrel
   have HTR := Lib.hid (HT1.out.turn htr.out)
   have s0 := HTR.out.2.cell HSC.out.1
   have s1 := HTR.out.2.cell HSC.out.2.1
   by_cases hlt : k < cl
   ·have e1 : ((k : Int) < (cl : Int)) = True := eq_true (by omega)
    obtain ⟨g, rfl, hgl, hgc⟩ := HC4.out (by omega)
    obtain ⟨i, hi⟩ : ∃ i, C[k]? = some i := ⟨C[k]'(by rw [← HN.out.2.2.2.1]; exact hlt), List.getElem?_eq_getElem _⟩
    have x0 := htr.out.2.cell (hgc k (.int .i64 i) (by rw [List.getElem?_map, hi]; rfl))
    have hi0 : (0 : Int) ≤ (k : Int) := by omega
    have hi1 : (k : Int) < (cl : Int) := by omega
    have HI := Lib.hid hi
    have HGC := Lib.hid hgc
    have HLT := Lib.hid hlt
    have hcap := HC1.out
    clear hi hgc hlt
    go_wp2_with fail
    refine (HIX.out wr (HS.out.stays HTR.out.2) i 1).mono ?_
    rintro e w3 ⟨rfl, hb3⟩
    obtain ⟨vi, hvi⟩ : ∃ x, x = varAt V i 1 := ⟨_, rfl⟩
    have hvb := HVB.out i 1
    rw [← hvi] at hvb ⊢
    have HVI := Lib.hid hvi
    have HVBi := Lib.hid hvb
    have HT3 := Lib.hid (HTR.out.below hb3)
    have HM3 := Lib.hid (hmr.out.below hb3)
    have HT13 := Lib.hid (htr.out.below hb3)
    clear hvi hvb hb3 hmr htr HTR x0 s0 s1
    go_wp2_with fail
    refine (ratFrom_any (n := tm) (by have := HTM.out; omega) (by have := HTM.out; omega)).mono ?_
    rintro e w4 ⟨v4, rfl, hr4, hb4⟩
    have HT4 := Lib.hid (HT3.out.below hb4)
    have HM4 := Lib.hid (HM3.out.below hb4)
    have HT14 := Lib.hid (HT13.out.below hb4)
    have HR4 := Lib.hid hr4
    clear hr4 hb4 HT3 HM3 HT13
    go_wp2_with fail
    refine (qadd2_any (bm := bm) HM4.out (by have := HN.out; have := HLT.out; omega) (by have := HN.out; omega) (by have := HVBi.out; omega) (by have := HVBi.out; have := HN.out; omega) HR4.out (Nat.le_refl 2) (by have := HN.out; have := HLT.out; omega) (HT4.out.2.cell HSC.out.2.2)).mono ?_
    rintro e w5 ⟨rfl, hm5, hg5, hs5⟩
    have HM5 := Lib.hid hm5
    have HT15 := Lib.hid (HT14.out.turn ⟨hg5, hs5⟩)
    clear hm5 hg5 hs5 HM4 HT4 HT14 HR4
    go_wp2_with fail
    go_roundg (cl - (k + 1))
    case measure => have := HLT.out; omega
    case rel => exact ⟨k + 1, by have := HLT.out; omega, by congr 1, Lib.hid (by rw [qaddChain_snoc HI.out, ← HVI.out]; exact (HM5.out.more (by omega)).mono (by omega)), HT15⟩
   ·have e1 : ((k : Int) < (cl : Int)) = False := eq_false (by omega)
    obtain rfl : k = cl := by omega
    have HMR := Lib.hid hmr.out
    have HTL := Lib.hid (show C.take k = C by rw [HN.out.2.2.2.1]; exact List.take_length)
    clear hmr htr
    obtain ⟨m1, hm1⟩ : ∃ x, x = qaddChain V tm C m := ⟨_, rfl⟩
    rw [HTL.out, ← hm1] at HMR
    have HM1X := Lib.hid hm1
    clear hm1 HTL
    by_cases hz : side = 0
    ·have e0 : (side == 0) = true := by rw [hz]; rfl
     have HPL := Lib.hid (show RM = m1 by
      rw [HRM.out, HOKT.out, if_pos rfl]
      unfold qplaceTo
      rw [decide_eq_true hkS]
      simp only [hz, ne_eq, not_true_eq_false, and_false, if_false, Bool.true_eq_false, false_and]
      rw [← HM1X.out])
     clear hz
     go_wp2_with fail
     refine (HIX.out wr (HS.out.stays HTR.out.2) (fn : Int) 3).mono ?_
     rintro e w9 ⟨rfl, hb9⟩
     have HT9 := Lib.hid (HTR.out.below hb9)
     have HM9 := Lib.hid (HMR.out.below hb9)
     clear hb9 HMR HTR s0 s1
     go_wp2_with fail
     go_ret
     exact ⟨by rw [HOKT.out]; rfl, by rw [HPL.out]; exact (HM9.out.more (by omega)).mono (by have := HN.out; omega), HAL.out.turn HT9.out⟩
    ·have e0 : (side == 0) = false := beq_eq_false_iff_ne.2 hz
     have HZ := Lib.hid hz
     clear hz
     obtain ⟨p, hp⟩ : ∃ x, x = side * tm := ⟨_, rfl⟩
     have hpb : -1 ≤ p ∧ p ≤ 1 := by
      have h1 := HTM.out
      have h2 := HSD.out
      rcases (show tm = -1 ∨ tm = 0 ∨ tm = 1 by omega) with h | h | h <;> rw [hp, h] <;> omega
     have hwp : wrap64 (side * tm) = p := by rw [← hp]; exact IntWalk.wrap64_in _ (by omega)
     have HPB := Lib.hid (And.intro hp hpb)
     clear hp hpb
     go_wp2_with fail
     refine (ratFrom_any (n := p) (by have := HPB.out; omega) (by have := HPB.out; omega)).mono ?_
     rintro e w4 ⟨v4, rfl, hr4, hb4⟩
     have HT4 := Lib.hid (HTR.out.below hb4)
     have HM4 := Lib.hid (HMR.out.below hb4)
     have HR4 := Lib.hid hr4
     clear hr4 hb4 s0 s1 HMR hwp
     go_wp2_with fail
     refine (ratFrom_any (n := 2) (by omega) (by omega)).mono ?_
     rintro e w5 ⟨v5, rfl, hr5, hb5⟩
     have HT5 := Lib.hid (HT4.out.below hb5)
     have HM5 := Lib.hid (HM4.out.below hb5)
     have HR5 := Lib.hid (And.intro (HR4.out.below hb5) hr5)
     clear hr5 hb5 HT4 HM4 HR4
     go_wp2_with fail
     refine (ratDiv_any HR5.out.1 HR5.out.2 (Nat.le_refl 2) (Nat.le_refl 2) (by omega)).mono ?_
     rintro e w6 ⟨v6, rfl, hr6, hb6⟩
     obtain ⟨s1', a1, c1, l1, s2', a2, c2, l2, rfl⟩ := rt_shape hr6
     have HT6 := Lib.hid (HT5.out.below hb6)
     have HM6 := Lib.hid (HM5.out.below hb6)
     have HR6 := Lib.hid hr6
     clear hr6 hb6 HT5 HM5 HR5
     go_upto_region 12 with fail
     obtain ⟨w7, hw7⟩ : ∃ x, x = w6.alloc (.cells #[.bool s1', .slice a1 c1 l1, .bool s2', .slice a2 c2 l2] 65) := ⟨_, rfl⟩
     have hb7 : Below w6.heap.size w6 w7 := by rw [hw7]; exact (Below.refl _ w6).alloc (Nat.le_refl _) _
     have kq : w7.heap[w6.heap.size]? = some (.cells #[.bool s1', .slice a1 c1 l1, .bool s2', .slice a2 c2 l2] 65 (0, 0)) := by rw [hw7]; exact heap_alloc_new w6 _
     obtain ⟨bq, hbq⟩ : ∃ b, b = w6.heap.size := ⟨_, rfl⟩
     rw [← hbq] at kq
     rw [← hw7, ← hbq]
     have HT7 := Lib.hid (HT6.out.below hb7)
     have HM7 := Lib.hid (HM6.out.below hb7)
     have HR7 := Lib.hid (HR6.out.below hb7)
     have HKQ := Lib.hid kq
     clear hw7 hb7 kq hbq HT6 HM6 HR6
     have s0 := HT7.out.2.cell HSC.out.1
     have s1 := HT7.out.2.cell HSC.out.2.1
     have kz := HKQ.out
     have z0 := block_cell kz 0
     have z1 := block_cell kz 1
     have z2 := block_cell kz 2
     have z3 := block_cell kz 3
     simp at z0 z1 z2 z3
     clear kz
     have HW7 := Lib.hid (Below.refl w7.heap.size w7)
     have HKA7 := Lib.hid (HT7.out.2.block _ _ _ _ HKA.out)
     clear s0 s1 z0 z1 z2 z3
     refine FlowR.wp_region_sel (fun a b => Below a.heap.size a b) (fun a => Below.refl _ a) (fun _ _ _ h k => h.trans (k.mono h.size)) [0, 1, 2, 3, 4] [false, false, false, false, false, false] [true, true, true, true, true, false] (fun i9 v w' => match i9 with
      | 0 => v = .func (.func 87) #[] #[.pointer (some ⟨bm, 0, none⟩)]
      | 1 => v = .agg #[.slice (some ⟨fb, fo, none⟩) nf cf, .slice az nz cz]
      | 2 => v = .int .i64 (fn : Int)
      | 3 => v = .int .i64 (varAt V (fn : Int) 2)
      | _ => v = .agg #[.bool s1', .slice a1 c1 l1, .bool s2', .slice a2 c2 l2]) rfl rfl (by kernel_rfl) (by kernel_rfl) (by kernel_rfl) (by kernel_rfl) ?st ?steps ?fin
     case st =>
      intro i9 v u1 u2 h hb
      match i9 with
      | 0 => exact h
      | 1 => exact h
      | 2 => exact h
      | 3 => exact (show v = .int .i64 (varAt V (fn : Int) 2) from h)
      | 4 => exact h
      | _ + 5 => exact h
     case steps =>
      refine Flow.Steps.cons (FlowR.Step.of rfl ?s0) (Flow.Steps.cons (FlowR.Step.of rfl ?s1) (Flow.Steps.cons (FlowR.Step.of rfl ?s2) (Flow.Steps.cons (FlowR.Step.of rfl ?s3) (Flow.Steps.cons (FlowR.Step.of rfl ?s4) Flow.Steps.nil))))
      case s0 =>
       intro xs w' hb hT K9 hK9
       clear hT
       simp only [zFp, zAp, zLa, zLb, zLc, Nat.reduceAdd, zNz] at hK9 ⊢
       have hw := Flow.hwD HW7.out hb
       go_simp
       exact hK9 _ _ (Below.refl _ _) rfl
      case s1 =>
       intro xs w' hb hT K9 hK9
       clear hT
       simp only [zFp, zAp, zLa, zLb, zLc, Nat.reduceAdd, zNz] at hK9 ⊢
       have hw := Flow.hwD HW7.out hb
       have kb := (hw.block ba (lt_of_block HKA7.out)).trans HKA7.out
       have y0 := block_cell kb 0
       have y1 := block_cell kb 1
       clear kb
       simp at y0 y1
       go_simp
       exact hK9 _ _ (Below.refl _ _) rfl
      case s2 =>
       intro xs w' hb hT K9 hK9
       clear hT
       simp only [zFp, zAp, zLa, zLb, zLc, Nat.reduceAdd, zNz] at hK9 ⊢
       have hw := Flow.hwD HW7.out hb
       go_simp
       exact hK9 _ _ (Below.refl _ _) rfl
      case s3 =>
       intro xs w' hb hT K9 hK9
       have h1 : (xs 1) = .agg #[.slice (some ⟨fb, fo, none⟩) nf cf, .slice az nz cz] := hT 1 (by kernel_rfl)
       have h2 : (xs 2) = .int .i64 (fn : Int) := hT 2 (by kernel_rfl)
       clear hT
       simp only [zFp, zAp, zLa, zLb, zLc, Nat.reduceAdd, zNz] at hK9 ⊢
       have hw := Flow.hwD HW7.out hb
       (try simp only [h1] at hK9)
       (try simp only [h2] at hK9)
       go_simp
       go_at_call 69
       refine (HIX.out w' (HS.out.stays (HT7.out.2.trans (Stays.of_below hw))) (fn : Int) 2).mono ?_
       rintro e w3 ⟨rfl, hb3⟩
       exact hK9 _ _ hb3 rfl
      case s4 =>
       intro xs w' hb hT K9 hK9
       clear hT
       simp only [zFp, zAp, zLa, zLb, zLc, Nat.reduceAdd, zNz] at hK9 ⊢
       have hw := Flow.hwD HW7.out hb
       have kb := (hw.block bq (lt_of_block HKQ.out)).trans HKQ.out
       have y0 := block_cell kb 0
       have y1 := block_cell kb 1
       have y2 := block_cell kb 2
       have y3 := block_cell kb 3
       clear kb
       simp at y0 y1 y2 y3
       go_simp
       exact hK9 _ _ (Below.refl _ _) rfl
     case fin =>
      intro xs w' hb hT
      have hw := Flow.hwD HW7.out hb
      have h0 : (xs 0) = .func (.func 87) #[] #[.pointer (some ⟨bm, 0, none⟩)] := hT 0 (by rfl)
      have h3 : (xs 3) = .int .i64 (varAt V (fn : Int) 2) := hT 3 (by rfl)
      have h4 : (xs 4) = .agg #[.bool s1', .slice a1 c1 l1, .bool s2', .slice a2 c2 l2] := hT 4 (by rfl)
      clear hT
      simp only [zFp, zAp, zLa, zLb, zLc, Nat.reduceAdd, zNz, FlowR.restL, FlowR.orM, Bool.false_or]
      simp only [h0, h3, h4]
      clear h0 h3 h4
      have HT8 := Lib.hid (HT7.out.below hw)
      have HM8 := Lib.hid (HM7.out.below hw)
      have HR8 := Lib.hid (HR7.out.below hw)
      have hvb2 := HVB.out (fn : Int) 2
      have HVB2 := Lib.hid hvb2
      clear hw hb hvb2 HT7 HM7 HR7
      go_wp2_with fail
      refine (qadd2_any (bm := bm) HM8.out (by have := HN.out; omega) (by have := HN.out; omega) (by have := HVB2.out; omega) (by have := HVB2.out; have := HN.out; omega) HR8.out (by omega) (by have := HN.out; omega) (HT8.out.2.cell HSC.out.2.2)).mono ?_
      rintro e w9 ⟨rfl, hm9, hg9, hs9⟩
      have HM9 := Lib.hid hm9
      have HT9 := Lib.hid (HT8.out.turn ⟨hg9, hs9⟩)
      clear hm9 hg9 hs9 HM8 HT8 HR8
      have s0 := HT9.out.2.cell HSC.out.1
      have s1 := HT9.out.2.cell HSC.out.2.1
      go_wp2_with fail
      refine (HIX.out _ (HS.out.stays HT9.out.2) (fn : Int) 3).mono ?_
      rintro e wx ⟨rfl, hbx⟩
      have HTx := Lib.hid (HT9.out.below hbx)
      have HMx := Lib.hid (HM9.out.below hbx)
      clear hbx HM9 HT9 s0 s1
      go_wp2_with fail
      go_ret
      refine ⟨by rw [HOKT.out]; rfl, ?_, HAL.out.turn HTx.out⟩
      rw [HRM.out, HOKT.out, if_pos rfl]
      unfold qplaceTo
      rw [decide_eq_true hkS]
      simp only [HZ.out, ne_eq, not_false_eq_true, and_true, if_true, Bool.true_eq_false, false_and, if_false]
      rw [← HM1X.out, ← HPB.out.1]
      exact (HMx.out.more (by have := HN.out; omega)).mono (by have := HN.out; omega)
 ·have ek : (ft.kind == 2) = false := beq_eq_false_iff_ne.2 hkS
  by_cases hz : side = 0
  ·have e0 : (side == 0) = true := by rw [hz]; rfl
   have HOKT := Lib.hid (show OK = true by rw [HOK.out]; exact decide_eq_true (by omega))
   clear hb1 hb2
   have HZ := Lib.hid hz
   clear hz
   go_wp2_with fail
   refine (HCH.out wa HS.out).mono ?_
   rintro e w1 ⟨vc, rfl, hr1, hb1⟩
   obtain ⟨ao, c, rfl, hc1, hc2, hc3, hc4⟩ := row1_reads hr1
   rw [← HN.out.2.2.2.1] at hc1 hc4
   rw [← HN.out.2.2.2.1]
   have hT1 := (Turned.refl b wa).below hb1
   have HT1 := Lib.hid hT1
   have HM1 := Lib.hid (HM.out.below hb1)
   have HC4 := Lib.hid hc4
   have s0 := cell_below hb1 HSC.out.1
   have s1 := cell_below hb1 HSC.out.2.1
   clear hr1 hb1 hT1 hc3 hc4 hc2 x1
   have HC1 := Lib.hid hc1
   have hcl9 : cl ≤ 100 := by have := HN.out; omega
   clear hc1
   go_wp2_with fail
   clear s0 s1
   go_loopg [44] cl (fun gk x wr => ∃ k : Nat, k + gk = cl ∧ x = .int .i64 k ∧ Hid (RMapIn wr b (n + k) (K + 3 * k) (qaddChain V tm (C.take k) m)) ∧ Hid (Turned b w1 wr))
   case atStart => exact ⟨0, by omega, rfl, Lib.hid HM1.out, Lib.hid (Turned.refl _ _)⟩
   case round =>
    obtain ⟨k, hk, rfl, hmr, htr⟩ := hrel
    have HTR := Lib.hid (HT1.out.turn htr.out)
    have s0 := HTR.out.2.cell HSC.out.1
    have s1 := HTR.out.2.cell HSC.out.2.1
    by_cases hlt : k < cl
    ·have e1 : ((k : Int) < (cl : Int)) = True := eq_true (by omega)
     obtain ⟨g, rfl, hgl, hgc⟩ := HC4.out (by omega)
     obtain ⟨i, hi⟩ : ∃ i, C[k]? = some i := ⟨C[k]'(by rw [← HN.out.2.2.2.1]; exact hlt), List.getElem?_eq_getElem _⟩
     have x0 := htr.out.2.cell (hgc k (.int .i64 i) (by rw [List.getElem?_map, hi]; rfl))
     have hi0 : (0 : Int) ≤ (k : Int) := by omega
     have hi1 : (k : Int) < (cl : Int) := by omega
     have HI := Lib.hid hi
     have HGC := Lib.hid hgc
     have HLT := Lib.hid hlt
     have hcap := HC1.out
     clear hi hgc hlt
     go_wp2_with fail
     refine (HIX.out wr (HS.out.stays HTR.out.2) i 1).mono ?_
     rintro e w3 ⟨rfl, hb3⟩
     obtain ⟨vi, hvi⟩ : ∃ x, x = varAt V i 1 := ⟨_, rfl⟩
     have hvb := HVB.out i 1
     rw [← hvi] at hvb ⊢
     have HVI := Lib.hid hvi
     have HVBi := Lib.hid hvb
     have HT3 := Lib.hid (HTR.out.below hb3)
     have HM3 := Lib.hid (hmr.out.below hb3)
     have HT13 := Lib.hid (htr.out.below hb3)
     clear hvi hvb hb3 hmr htr HTR x0 s0 s1
     go_wp2_with fail
     refine (ratFrom_any (n := tm) (by have := HTM.out; omega) (by have := HTM.out; omega)).mono ?_
     rintro e w4 ⟨v4, rfl, hr4, hb4⟩
     have HT4 := Lib.hid (HT3.out.below hb4)
     have HM4 := Lib.hid (HM3.out.below hb4)
     have HT14 := Lib.hid (HT13.out.below hb4)
     have HR4 := Lib.hid hr4
     clear hr4 hb4 HT3 HM3 HT13
     go_wp2_with fail
     refine (qadd2_any (bm := bm) HM4.out (by have := HN.out; have := HLT.out; omega) (by have := HN.out; omega) (by have := HVBi.out; omega) (by have := HVBi.out; have := HN.out; omega) HR4.out (Nat.le_refl 2) (by have := HN.out; have := HLT.out; omega) (HT4.out.2.cell HSC.out.2.2)).mono ?_
     rintro e w5 ⟨rfl, hm5, hg5, hs5⟩
     have HM5 := Lib.hid hm5
     have HT15 := Lib.hid (HT14.out.turn ⟨hg5, hs5⟩)
     clear hm5 hg5 hs5 HM4 HT4 HT14 HR4
     go_wp2_with fail
     go_roundg (cl - (k + 1))
     case measure => have := HLT.out; omega
     case rel => exact ⟨k + 1, by have := HLT.out; omega, by congr 1, Lib.hid (by rw [qaddChain_snoc HI.out, ← HVI.out]; exact (HM5.out.more (by omega)).mono (by omega)), HT15⟩
    ·have e1 : ((k : Int) < (cl : Int)) = False := eq_false (by omega)
     obtain rfl : k = cl := by omega
     have HMR := Lib.hid hmr.out
     have HTL := Lib.hid (show C.take k = C by rw [HN.out.2.2.2.1]; exact List.take_length)
     clear hmr htr
     obtain ⟨m1, hm1⟩ : ∃ x, x = qaddChain V tm C m := ⟨_, rfl⟩
     rw [HTL.out, ← hm1] at HMR
     have HM1X := Lib.hid hm1
     clear hm1 HTL
     have e0 : (side == 0) = true := by rw [HZ.out]; rfl
     go_wp2_with fail
     refine (HIX.out wr (HS.out.stays HTR.out.2) (fn : Int) 3).mono ?_
     rintro e w9 ⟨rfl, hb9⟩
     obtain ⟨v3, hv3⟩ : ∃ x, x = varAt V (fn : Int) 3 := ⟨_, rfl⟩
     have hvb3 := HVB.out (fn : Int) 3
     rw [← hv3] at hvb3 ⊢
     have HV3 := Lib.hid (And.intro hv3 hvb3)
     have HT9 := Lib.hid (HTR.out.below hb9)
     have HM9 := Lib.hid (HMR.out.below hb9)
     clear hv3 hvb3 hb9 HMR HTR s0 s1
     by_cases h3 : 0 ≤ v3
     ·have e3 : ((0 : Int) ≤ v3) = True := eq_true h3
      have HPL := Lib.hid (show RM = addTo m1 v3 (tm : Rat) by
       rw [HRM.out, HOKT.out, if_pos rfl]
       unfold qplaceTo
       rw [decide_eq_false hkS, ← HV3.out.1]
       simp only [h3, Bool.false_eq_true, false_and, if_false, and_true, if_true]
       rw [← HM1X.out])
      clear h3
      go_wp2_with fail
      refine (ratFrom_any (n := tm) (by have := HTM.out; omega) (by have := HTM.out; omega)).mono ?_
      rintro e wb ⟨vb, rfl, hrb, hbb⟩
      have HTb := Lib.hid (HT9.out.below hbb)
      have HMb := Lib.hid (HM9.out.below hbb)
      have HRb := Lib.hid hrb
      clear hrb hbb HT9 HM9
      go_wp2_with fail
      refine (qadd2_any (bm := bm) HMb.out (by have := HN.out; omega) (by have := HN.out; omega) (by have := HV3.out; omega) (by have := HV3.out; have := HN.out; omega) HRb.out (Nat.le_refl 2) (by have := HN.out; omega) (HTb.out.2.cell HSC.out.2.2)).mono ?_
      rintro e wc ⟨rfl, hmc, hgc, hsc⟩
      have HF := Lib.hid (And.intro ((hmc.more (show _ ≤ K + 714 by have := HN.out; omega)).mono (show _ ≤ n + 102 by have := HN.out; omega)) (HTb.out.turn ⟨hgc, hsc⟩))
      clear hmc hgc hsc HMb HTb HRb
      go_wp2_with fail
      go_ret
      exact ⟨by rw [HOKT.out]; rfl, by rw [HPL.out]; exact HF.out.1, HAL.out.turn HF.out.2⟩
     ·have e3 : ((0 : Int) ≤ v3) = False := eq_false h3
      have HPL := Lib.hid (show RM = m1 by
       rw [HRM.out, HOKT.out, if_pos rfl]
       unfold qplaceTo
       rw [decide_eq_false hkS, ← HV3.out.1]
       simp only [h3, Bool.false_eq_true, false_and, if_false, and_false]
       rw [← HM1X.out])
      clear h3
      go_wp2_with fail
      go_ret
      exact ⟨by rw [HOKT.out]; rfl, by rw [HPL.out]; exact (HM9.out.more (by have := HN.out; omega)).mono (by have := HN.out; omega), HAL.out.turn HT9.out⟩
  ·have e0 : (side == 0) = false := beq_eq_false_iff_ne.2 hz
   have HO := Lib.hid (show OK = false by rw [HOK.out]; exact decide_eq_false (by omega))
   go_wp2_with fail
   go_ret
   exact ⟨by rw [HO.out]; rfl, by rw [HRM.out, HO.out, if_neg (by decide)]; exact ((HM.out.more (by omega)).mono (by omega)), HAL.out⟩
end Go.Proofs.YtgofihilkobenaaGreatDoor
