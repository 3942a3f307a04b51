/- sameForm: two forms are alike. -/
import Derived.Test.YtgofihilkobenaaGreatDoorKQ
import Derived.Test.YtgofihilkobenaaGreatDoorKM
set_option maxRecDepth 100000
namespace Go.Proofs.YtgofihilkobenaaGreatDoor
open Go.RowKit Go.Num Go.Flow Go.Dtm
set_option maxHeartbeats 8000000
set_option linter.unusedVariables false

def eqTerm (p q : Nat × List UInt8) : Bool := ((p.1 : Int) == (q.1 : Int)) && (p.2 == q.2)
theorem eqTerm_iff {p q : Nat × List UInt8} : eqTerm p q = true ↔ p = q := by
 unfold eqTerm
 rw [Bool.and_eq_true, beq_iff_eq, beq_iff_eq]
 constructor
 ·intro h; exact Prod.ext (by omega) h.2
 ·rintro rfl; exact ⟨rfl, rfl⟩
theorem same_lists {α : Type} [DecidableEq α] {l m : List α} (d : α) (hl : l.length = m.length) (h : ∀ j, j < l.length → l.getD j d = m.getD j d) : l = m := by
 apply List.ext_getElem hl
 intro j h1 h2
 have := h j h1
 rw [List.getD_eq_getElem?_getD, List.getD_eq_getElem?_getD, List.getElem?_eq_getElem h1, List.getElem?_eq_getElem h2] at this
 exact this
theorem sEqT_any {w : World} {v1 v2 : Value} {l m : List (Nat × List UInt8)} (h1 : TermsIn w v1 l) (h2 : TermsIn w v2 m) (hsm : l.length ≤ 1000000) :
  Calls Tryz.prog 82 #[v1, v2] w fun e w' => e = .returned (.bool (decide (l = m))) ∧ Below w.heap.size w w' := by
 obtain ⟨a1, c1, rfl, p1, p2, p3⟩ := h1
 obtain ⟨a2, c2, rfl, q1, q2, q3⟩ := h2
 obtain ⟨n, hn⟩ : ∃ n, n = l.length := ⟨_, rfl⟩
 obtain ⟨k, hk⟩ : ∃ n, n = m.length := ⟨_, rfl⟩
 obtain ⟨R, hR⟩ : ∃ x, x = decide (l = m) := ⟨_, rfl⟩
 unfold maxLen at p2 q2
 rw [← hn] at p1 p3 hsm ⊢
 rw [← hk] at q1 q3 ⊢
 rw [← hR]
 have P3 := ZH p3
 have Q3 := ZH q3
 have HR := ZH hR
 have HN := ZH (ZN hn hk)
 clear p3 q3 hR hn hk
 go_enter Tryz.func82, Tryz.ntmps82
 by_cases hnk : n = k
 ·subst hnk
  have e0 : ((n : Int) == (n : Int)) = true := by simp
  go_wp2_with fail
  go_loopw [13] (fun x wr => ∃ i : Nat, i ≤ n ∧ x = .int .i64 i ∧ Hid (∀ j, j < i → l.getD j (0, []) = m.getD j (0, [])) ∧ Hid (Below w.heap.size w wr)) (fun x _ => n - (intOf x).toNat)
  case atStart => exact ⟨0, Nat.zero_le _, rfl, ZH (fun j hj => absurd hj (by omega)), ZH (ZR _ _)⟩
  case round =>
   obtain ⟨i, hin, rfl, hall, hbw⟩ := hrel
   by_cases hlt : i < n
   ·have e1 : ((i : Int) < (n : Int)) = True := eq_true (by omega)
    obtain ⟨b1, o1, rfl, -, hc1⟩ := P3.out (by omega)
    obtain ⟨b2, o2, rfl, -, hc2⟩ := Q3.out (by omega)
    obtain ⟨x, hx⟩ : ∃ q, q = l.getD i (0, []) := ⟨_, rfl⟩
    obtain ⟨y, hy⟩ : ∃ q, q = m.getD i (0, []) := ⟨_, rfl⟩
    have h1 := hc1 i hlt
    have h2 := hc2 i hlt
    rw [← hx] at h1
    rw [← hy] at h2
    have x0 := ZJ hbw.out h1.1
    have x1 := ZJ hbw.out h1.2
    have y0 := ZJ hbw.out h2.1
    have y1 := ZJ hbw.out h2.2
    have hi0 : (0 : Int) ≤ (i : Int) := by omega
    have hi1 : (i : Int) < (n : Int) := by omega
    have HXY := ZH (ZN hx hy)
    clear hx hy h1 h2 hc1 hc2
    have hev := neq_term (x.1 : Int) (y.1 : Int) ⟨x.2.toArray⟩ ⟨y.2.toArray⟩
    have hvg := term_guard
    rw [toArray_list, toArray_list] at hev
    obtain ⟨q, hq⟩ : ∃ q, q = (((x.1 : Int) == (y.1 : Int)) && (x.2 == y.2)) := ⟨_, rfl⟩
    rw [← hq] at hev
    have HQ := ZH hq
    clear hq
    go_upto_region 6 with fail
    go_quiet (fail)
    cases q with
    | true =>
     have hxy : x = y := eqTerm_iff.1 HQ.out.symm
     go_wp2_with fail
     refine ⟨⟨i + 1, hlt, by congr 1, ZH fun j hj => ?_, ZH (hbw.out.trans ((below_drawn wr _).mono hbw.out.size))⟩, by simp [intOf]; omega⟩
     by_cases h : j < i
     ·exact hall.out j h
     ·obtain rfl : j = i := by omega
      rw [← HXY.out.1, ← HXY.out.2, hxy]
    | false =>
     have hR : R = false := by
      rw [HR.out, decide_eq_false_iff_not]
      rintro rfl
      have : eqTerm x y = true := eqTerm_iff.2 (by rw [HXY.out.1, HXY.out.2])
      unfold eqTerm at this
      rw [← HQ.out] at this
      cases this
     go_wp2_with fail
     go_ret
     exact ⟨by rw [hR]; rfl, hbw.out.trans ((below_drawn wr _).mono hbw.out.size)⟩
   ·have e1 : ((i : Int) < (n : Int)) = False := eq_false (by omega)
    obtain rfl : i = n := by omega
    have hR : R = true := by
     rw [HR.out, decide_eq_true_iff]
     exact same_lists (0, []) (by rw [← HN.out.1, HN.out.2]) (fun j hj => hall.out j (by rw [HN.out.1]; exact hj))
    go_wp2_with fail
    go_ret
    exact ⟨by rw [hR]; rfl, hbw.out⟩
 ·have e0 : ((n : Int) == (k : Int)) = false := ZQ.2 (by omega)
  have hR : R = false := by
   rw [HR.out, decide_eq_false_iff_not]
   rintro rfl
   exact hnk (HN.out.1.trans HN.out.2.symm)
  go_wp2_with fail
  go_ret
  exact ⟨by rw [hR]; rfl, ZR _ _⟩
theorem sameForm_any {w : World} {v1 v2 : Value} {c d : List UInt8} {l m : List (Nat × List UInt8)} (h1 : FormAt w v1 c l) (h2 : FormAt w v2 d m) (hsm : l.length ≤ 1000000) :
  Calls Tryz.prog 35 #[v1, v2] w fun e w' => e = .returned (.bool (decide (c = d ∧ l = m))) ∧ Below w.heap.size w w' := by
 obtain ⟨t1, rfl, h1⟩ := h1
 obtain ⟨t2, rfl, h2⟩ := h2
 obtain ⟨a1, c1, rfl, -⟩ := id h1
 obtain ⟨a2, c2, rfl, -⟩ := id h2
 obtain ⟨n, hn⟩ : ∃ n, n = l.length := ⟨_, rfl⟩
 obtain ⟨k, hk⟩ : ∃ n, n = m.length := ⟨_, rfl⟩
 rw [← hn] at h1 ⊢
 rw [← hk] at h2 ⊢
 obtain ⟨wa, hwa⟩ : ∃ wa, wa = (w.alloc (.cells #[.string ⟨c.toArray⟩, .slice a1 n c1] 78)).alloc (.cells #[.string ⟨d.toArray⟩, .slice a2 k c2] 78) := ⟨_, rfl⟩
 obtain ⟨b1, hb1⟩ : ∃ b, b = w.heap.size := ⟨_, rfl⟩
 obtain ⟨b2, hb2⟩ : ∃ b, b = w.heap.size + 1 := ⟨_, rfl⟩
 have hal : Below w.heap.size w wa := by rw [hwa]; exact ((ZR _ w).alloc (Nat.le_refl _) _).alloc (by simp) _
 obtain ⟨k1, k2⟩ := two_made w #[.string ⟨c.toArray⟩, .slice a1 n c1] #[.string ⟨d.toArray⟩, .slice a2 k c2] 78 78
 rw [← hwa, ← hb1] at k1
 rw [← hwa, ← hb2] at k2
 have s0 := ZI k1 0
 have s1 := ZI k1 1
 have u0 := ZI k2 0
 have u1 := ZI k2 1
 simp at s0 s1 u0 u1
 have HE := ZH (sEqT_any (h1.below hal) (h2.below hal) hsm)
 have HAL := ZH hal
 have HW := ZH (ZN hwa (ZN hb1 hb2))
 obtain ⟨R, hR⟩ : ∃ x, x = decide (l = m) := ⟨_, rfl⟩
 rw [← hR] at HE
 have HR := ZH hR
 clear hal hwa hb1 hb2 k1 k2 h1 h2 hn hk hR hsm
 have HC := ZH (show ((⟨c.toArray⟩ : ByteArray).toList = (⟨d.toArray⟩ : ByteArray).toList) = (c = d) by rw [toArray_list, toArray_list])
 go_enter Tryz.func35, Tryz.ntmps35
 go_upto_region 1 with fail
 rw [← HW.out.1, ← HW.out.2.2, ← HW.out.2.1]
 clear HW
 by_cases hcd : c = d
 ·have e1 : ((⟨c.toArray⟩ : ByteArray).toList == (⟨d.toArray⟩ : ByteArray).toList) = true := by rw [toArray_list, toArray_list, hcd]; simp
  have HCD := ZH hcd
  clear hcd
  go_wp2_with fail
  refine HE.out.mono ?_
  rintro e w3 ⟨rfl, hb3⟩
  go_wp2_with fail
  go_ret
  refine ⟨?_, HAL.out.trans (hb3.mono HAL.out.size)⟩
  rw [HR.out, show decide (c = d ∧ l = m) = decide (l = m) from decide_eq_decide.2 ⟨fun h => h.2, fun h => ⟨HCD.out, h⟩⟩]
  rfl
 ·have e1 : ((⟨c.toArray⟩ : ByteArray).toList == (⟨d.toArray⟩ : ByteArray).toList) = false := by
   rw [toArray_list, toArray_list]
   exact ZQ.2 hcd
  have HCD := ZH hcd
  clear hcd
  go_wp2_with fail
  go_ret
  refine ⟨?_, HAL.out⟩
  rw [ZU (fun h => HCD.out h.1)]
  rfl
end Go.Proofs.YtgofihilkobenaaGreatDoor
