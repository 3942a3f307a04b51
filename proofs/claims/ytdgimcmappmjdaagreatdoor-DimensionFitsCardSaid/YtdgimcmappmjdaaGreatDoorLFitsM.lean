/- DimensionFits: the walk. -/
import Derived.Test.YtdgimcmappmjdaaGreatDoorK6
set_option linter.unusedSimpArgs false
set_option linter.unusedVariables false
set_option maxRecDepth 100000
namespace Go.Proofs.YtdgimcmappmjdaaGreatDoor
open Go.RowKit Go.Num Go.Flow
set_option maxHeartbeats 8000000
set_option linter.unusedVariables false

theorem fit_swap (a b : Dm) : leastC b a = -mostC a b ∧ mostC b a = -leastC a b := by
 unfold leastC mostC
 omega
theorem fit_swap0 {a b : Dm} (h1 : dimsErr [a] = 0) (h2 : dimsErr [b] = 0) : fitErr a b = 0 ∧ fitErr b a = 0 := by
 unfold fitErr
 rw [if_neg (by simp [h1]), if_neg (by simp [h2])]
 exact ⟨h2, h1⟩
theorem said_DimensionFits {w : World} (hG : Glob w) (a b : Dm) : Calls Tryz.prog 3 #[dmV a, dmV b] w fun e w' => e = .returned (.bool true) ∧ Below w.heap.size w w' := by
 unfold dmV
 obtain ⟨wa, ba, bb, hwa, hba, hbb, hal, k0, k1⟩ := new_two w #[.string a.name, .int .i64 a.nominal, .int .i64 a.lower, .int .i64 a.upper] #[.string b.name, .int .i64 b.nominal, .int .i64 b.lower, .int .i64 b.upper] 23 23
 have HW := ZH (ZN hwa (ZN hba hbb))
 have HK := ZH (ZN k0 k1)
 have HAL := ZH hal
 have HG := ZH (hG.below hal)
 clear hwa hba hbb hal k0 k1 hG
 go_enter Tryz.func3, Tryz.ntmps3
 go_upto_region 1 with fail
 rw [← HW.out.1, ← HW.out.2.2, ← HW.out.2.1]
 clear HW
 go_wp2_with fail
 refine (pknown_any HG.out).mono ?_
 rintro e w1 ⟨rfl, hb1⟩
 have HB1 := ZH hb1
 obtain ⟨x0, x1, x2, x3⟩ := cells4 hb1 HK.out.1
 obtain ⟨y0, y1, y2, y3⟩ := cells4 hb1 HK.out.2
 have HKN := ZH (pknown_any (HG.out.below hb1))
 clear hb1
 by_cases ha : 50 < a.name.size
 ·have e1 : ((50 : Int) < (a.name.size : Int)) = True := eq_true (by omega)
  go_wp2_with fail
  refine HKN.out.mono ?_
  rintro e w2 ⟨rfl, hb2⟩
  have HF := ZH (HAL.out.trans ((HB1.out.trans (hb2.mono HB1.out.size)).mono HAL.out.size))
  clear hb2
  go_wp2_with fail
  go_ret
  exact ⟨rfl, HF.out⟩
 have e1 : ((50 : Int) < (a.name.size : Int)) = False := eq_false (by omega)
 by_cases hb : 50 < b.name.size
 ·have e2 : ((50 : Int) < (b.name.size : Int)) = True := eq_true (by omega)
  go_wp2_with fail
  refine HKN.out.mono ?_
  rintro e w2 ⟨rfl, hb2⟩
  have HF := ZH (HAL.out.trans ((HB1.out.trans (hb2.mono HB1.out.size)).mono HAL.out.size))
  clear hb2
  go_wp2_with fail
  go_ret
  exact ⟨rfl, HF.out⟩
 have e2 : ((50 : Int) < (b.name.size : Int)) = False := eq_false (by omega)
 have HSZ := ZH (show a.name.size ≤ 50 ∧ b.name.size ≤ 50 by omega)
 have hft := mFit_any (w := w1) a b
 unfold dmV at hft
 obtain ⟨E, hE⟩ : ∃ x, x = fitErr a b := ⟨_, rfl⟩
 obtain ⟨A, hA⟩ : ∃ x, x = leastC a b := ⟨_, rfl⟩
 obtain ⟨B, hB⟩ : ∃ x, x = mostC a b := ⟨_, rfl⟩
 obtain ⟨KD, hKD⟩ : ∃ x, x = kindOf A B := ⟨_, rfl⟩
 rw [← hE, ← hA, ← hB, ← hKD] at hft
 have HFT := ZH hft
 have HE := ZH (ZN hE (ZN hA (ZN hB hKD)))
 obtain ⟨E1, hE1⟩ : ∃ x, x = dimsErr [a] := ⟨_, rfl⟩
 obtain ⟨E2, hE2⟩ : ∃ x, x = dimsErr [b] := ⟨_, rfl⟩
 have HEE := ZH (ZN hE1 (ZN hE2 (show E = if E1 ≠ 0 then E1 else E2 by rw [hE, hE1, hE2]; rfl)))
 have hc1 := fun (W : World) => pcheck_any (D := [a]) (dims_one (ZW W (.cells #[.string a.name, .int .i64 a.nominal, .int .i64 a.lower, .int .i64 a.upper] 23))) (by simp) (fun j hj => by
  obtain rfl : j = 0 := by simpa using hj
  have := HSZ.out.1
  show a.name.size ≤ _
  omega)
 have hc2 := fun (W : World) => pcheck_any (D := [b]) (dims_one (ZW W (.cells #[.string b.name, .int .i64 b.nominal, .int .i64 b.lower, .int .i64 b.upper] 23))) (by simp) (fun j hj => by
  obtain rfl : j = 0 := by simpa using hj
  have := HSZ.out.2
  show b.name.size ≤ _
  omega)
 simp only [List.length_cons, List.length_nil, Nat.zero_add] at hc1 hc2
 rw [← hE1] at hc1
 rw [← hE2] at hc2
 have HC1 := ZH hc1
 have HC2 := ZH hc2
 clear hft hE hA hB hKD hE1 hE2 hc1 hc2 ha hb HKN
 go_wp2_with fail
 refine HFT.out.mono ?_
 rintro e w2 ⟨hne, hz, hb2⟩
 have HB2 := ZH (HB1.out.trans (hb2.mono HB1.out.size))
 clear x0 x1 x2 x3 y0 y1 y2 y3 hb2
 obtain ⟨x0, x1, x2, x3⟩ := cells4 HB2.out HK.out.1
 obtain ⟨y0, y1, y2, y3⟩ := cells4 HB2.out HK.out.2
 have HL := ZH (show ∀ W, Below W.heap.size W (W.alloc (.cells #[.string a.name, .int .i64 a.nominal, .int .i64 a.lower, .int .i64 a.upper] 23)) from fun W => (ZR _ W).alloc (Nat.le_refl _) _)
 have HM := ZH (show ∀ W, Below W.heap.size W (W.alloc (.cells #[.string b.name, .int .i64 b.nominal, .int .i64 b.lower, .int .i64 b.upper] 23)) from fun W => (ZR _ W).alloc (Nat.le_refl _) _)
 by_cases h1 : E1 = 0
 ·have hEE : E = E2 := by rw [HEE.out.2.2, if_neg (by simp [h1])]
  have f1 : (E1 == 0) = true := by rw [h1]; rfl
  have f1' : (E1 != 0) = false := by rw [h1]; rfl
  by_cases h2 : E2 = 0
  ·have f2' : (E2 != 0) = false := by rw [h2]; rfl
   have hd1 := fine_dim (HEE.out.1.symm.trans h1)
   have hd2 := fine_dim (HEE.out.2.1.symm.trans h2)
   have hsw := fit_swap a b
   have hs0 := fit_swap0 (HEE.out.1.symm.trans h1) (HEE.out.2.1.symm.trans h2)
   have hA : A = a.nominal + a.lower - b.nominal - b.upper := by rw [HE.out.2.1]; unfold leastC; omega
   have hB : B = a.nominal + a.upper - b.nominal - b.lower := by rw [HE.out.2.2.1]; unfold mostC; omega
   obtain rfl := hz (by rw [hEE]; exact h2)
   have HFD := ZH (ZN hd1 hd2)
   have hf2 := fun (W : World) => (mFit_any (w := W) b a)
   have HF2 := ZH (show ∀ W, Calls Tryz.prog 14 #[.agg #[.string b.name, .int .i64 b.nominal, .int .i64 b.lower, .int .i64 b.upper], .agg #[.string a.name, .int .i64 a.nominal, .int .i64 a.lower, .int .i64 a.upper]] W fun e w' => (∃ q, e = .returned (.tuple #[.int .i64 q, .int .i64 (-B), .int .i64 (-A), .int .i64 0])) ∧ Below W.heap.size W w' from fun W => (hf2 W).mono fun e w' h => ⟨⟨kindOf (leastC b a) (mostC b a), by rw [h.2.1 hs0.2, hsw.1, hsw.2, ← HE.out.2.1, ← HE.out.2.2.1]⟩, h.2.2⟩)
   have HKD := ZH HE.out.2.2.2
   clear hne hz hsw hs0 hf2 hEE
   go_wp2_with fail
   refine (HC1.out w2).mono ?_
   rintro e w3 ⟨rfl, hb3⟩
   have h23 := (HL.out w2).trans (hb3.mono (HL.out w2).size)
   have HB3 := ZH (HB2.out.trans (h23.mono HB2.out.size))
   clear hb3 h23 x0 x1 x2 x3 y0 y1 y2 y3
   obtain ⟨x0, x1, x2, x3⟩ := cells4 HB3.out HK.out.1
   obtain ⟨y0, y1, y2, y3⟩ := cells4 HB3.out HK.out.2
   go_wp2_with fail
   refine (HC2.out w3).mono ?_
   rintro e w4 ⟨rfl, hb4⟩
   have h34 := (HM.out w3).trans (hb4.mono (HM.out w3).size)
   have HB4 := ZH (HB3.out.trans (h34.mono HB3.out.size))
   clear hb4 h34 x0 x1 x2 x3 y0 y1 y2 y3
   obtain ⟨x0, x1, x2, x3⟩ := cells4 HB4.out HK.out.1
   obtain ⟨y0, y1, y2, y3⟩ := cells4 HB4.out HK.out.2
   have v1 : IntKind.i64.wrap (a.nominal + a.lower) = a.nominal + a.lower := IntWalk.i64_in _ (by omega)
   have v2 : IntKind.i64.wrap (a.nominal + a.lower - b.nominal) = a.nominal + a.lower - b.nominal := IntWalk.i64_in _ (by omega)
   have v3 : IntKind.i64.wrap (a.nominal + a.lower - b.nominal - b.upper) = A := by rw [hA]; exact IntWalk.i64_in _ (by omega)
   have v4 : IntKind.i64.wrap (a.nominal + a.upper) = a.nominal + a.upper := IntWalk.i64_in _ (by omega)
   have v5 : IntKind.i64.wrap (a.nominal + a.upper - b.nominal) = a.nominal + a.upper - b.nominal := IntWalk.i64_in _ (by omega)
   have v6 : IntKind.i64.wrap (a.nominal + a.upper - b.nominal - b.lower) = B := by rw [hB]; exact IntWalk.i64_in _ (by omega)
   have z1 : wrap64 A = A := IntWalk.wrap64_in A (by omega)
   have z2 : wrap64 B = B := IntWalk.wrap64_in B (by omega)
   have z3 : wrap64 (-A) = -A := IntWalk.wrap64_in (-A) (by omega)
   have z4 : wrap64 (-B) = -B := IntWalk.wrap64_in (-B) (by omega)
   have hA2 := hA.symm
   have hB2 := hB.symm
   clear hA hB hd1 hd2
   go_upto_region 9 with fail
   go_upto_region 11 with fail
   clear v1 v2 v3 v4 v5 v6 hA2 hB2
   rcases (show (0 ≤ A ∧ KD = 1) ∨ (¬ 0 ≤ A ∧ B ≤ 0 ∧ KD = 3) ∨ (¬ 0 ≤ A ∧ ¬ B ≤ 0 ∧ KD = 2) by
    rw [HKD.out]
    unfold kindOf
    by_cases q1 : 0 ≤ A
    ·exact .inl ⟨q1, if_pos q1⟩
    ·by_cases q2 : B ≤ 0
     ·exact .inr (.inl ⟨q1, q2, by rw [if_neg q1, if_pos q2]⟩)
     ·exact .inr (.inr ⟨q1, q2, by rw [if_neg q1, if_neg q2]⟩)) with ⟨q1, q3⟩ | ⟨q1, q2, q3⟩ | ⟨q1, q2, q3⟩
   ·have g1 : (0 ≤ A) = True := eq_true q1
    have g9 : (KD == 1) = true := by rw [q3]; rfl
    clear q1 q3
    go_wp2_with fail
    refine (HF2.out w4).mono ?_
    rintro e w5 ⟨⟨q, rfl⟩, hb5⟩
    have HF := ZH (HAL.out.trans ((HB4.out.trans (hb5.mono HB4.out.size)).mono HAL.out.size))
    clear hb5 x0 x1 x2 x3 y0 y1 y2 y3
    go_wp2_with fail
    go_ret
    exact ⟨rfl, HF.out⟩
   ·have g1 : (0 ≤ A) = False := eq_false q1
    have g2 : (B ≤ 0) = True := eq_true q2
    have g9 : (KD == 3) = true := by rw [q3]; rfl
    clear q1 q3 q2
    go_wp2_with fail
    refine (HF2.out w4).mono ?_
    rintro e w5 ⟨⟨q, rfl⟩, hb5⟩
    have HF := ZH (HAL.out.trans ((HB4.out.trans (hb5.mono HB4.out.size)).mono HAL.out.size))
    clear hb5 x0 x1 x2 x3 y0 y1 y2 y3
    go_wp2_with fail
    go_ret
    exact ⟨rfl, HF.out⟩
   ·have g1 : (0 ≤ A) = False := eq_false q1
    have g2 : (B ≤ 0) = False := eq_false q2
    have g9 : (KD == 2) = true := by rw [q3]; rfl
    clear q1 q3 q2
    go_wp2_with fail
    refine (HF2.out w4).mono ?_
    rintro e w5 ⟨⟨q, rfl⟩, hb5⟩
    have HF := ZH (HAL.out.trans ((HB4.out.trans (hb5.mono HB4.out.size)).mono HAL.out.size))
    clear hb5 x0 x1 x2 x3 y0 y1 y2 y3
    go_wp2_with fail
    go_ret
    exact ⟨rfl, HF.out⟩
  ·have f2' : (E2 != 0) = true := by simpa using h2
   obtain rfl := hne (by rw [hEE]; exact h2)
   have f3 : (E == E2) = true := by rw [hEE]; exact beq_self_eq_true _
   clear hne hz hEE
   go_wp2_with fail
   refine (HC1.out w2).mono ?_
   rintro e w3 ⟨rfl, hb3⟩
   have h23 := (HL.out w2).trans (hb3.mono (HL.out w2).size)
   have HB3 := ZH (HB2.out.trans (h23.mono HB2.out.size))
   clear hb3 h23 x0 x1 x2 x3 y0 y1 y2 y3
   obtain ⟨y0, y1, y2, y3⟩ := cells4 HB3.out HK.out.2
   go_wp2_with fail
   refine (HC2.out w3).mono ?_
   rintro e w4 ⟨rfl, hb4⟩
   have h34 := (HM.out w3).trans (hb4.mono (HM.out w3).size)
   have HB4 := ZH (HB3.out.trans (h34.mono HB3.out.size))
   have HF := ZH (HAL.out.trans (HB4.out.mono HAL.out.size))
   clear hb4 h34 y0 y1 y2 y3
   go_wp2_with fail
   go_ret
   exact ⟨rfl, HF.out⟩
 ·have hEE : E = E1 := by rw [HEE.out.2.2, if_pos h1]
  have f1 : (E1 == 0) = false := by simpa using h1
  have f1' : (E1 != 0) = true := by simpa using h1
  obtain rfl := hne (by rw [hEE]; exact h1)
  have f3 : (E == E1) = true := by rw [hEE]; exact beq_self_eq_true _
  clear hne hz hEE
  go_wp2_with fail
  refine (HC1.out w2).mono ?_
  rintro e w3 ⟨rfl, hb3⟩
  have h23 := (HL.out w2).trans (hb3.mono (HL.out w2).size)
  have HB3 := ZH (HB2.out.trans (h23.mono HB2.out.size))
  have HF := ZH (HAL.out.trans (HB3.out.mono HAL.out.size))
  clear hb3 h23 x0 x1 x2 x3 y0 y1 y2 y3
  go_wp2_with fail
  go_ret
  exact ⟨rfl, HF.out⟩
end Go.Proofs.YtdgimcmappmjdaaGreatDoor
