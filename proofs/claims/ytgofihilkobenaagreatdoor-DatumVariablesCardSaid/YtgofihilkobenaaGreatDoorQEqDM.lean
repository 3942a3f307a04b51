/- Equality of lists of dimensions; the index of a key. -/
import Derived.Test.YtgofihilkobenaaGreatDoorKQ
import Derived.Test.YtgofihilkobenaaGreatDoorKU
set_option maxRecDepth 100000
namespace Go.Proofs.YtgofihilkobenaaGreatDoor
open Go.RowKit Go.Num Go.Flow Go.Dtm
set_option maxHeartbeats 8000000
set_option linter.unusedVariables false

def eqDims (l m : List Dm) : Bool := (l.length == m.length) && (List.range l.length).all fun j => dmEq (l.getD j Dm.none) (m.getD j Dm.none)
theorem dmEq_refl (d : Dm) : dmEq d d = true := by unfold dmEq; simp
theorem eqDims_refl (l : List Dm) : eqDims l l = true := by
 unfold eqDims
 rw [Bool.and_eq_true, beq_iff_eq, List.all_eq_true]
 exact ⟨rfl, fun j _ => dmEq_refl _⟩
theorem sEqD_any {w : World} {a1 a2 : Option Addr} {c1 c2 : Nat} {l m : List Dm} (h1 : DimsIn w a1 c1 l) (h2 : DimsIn w a2 c2 m) (hsm : l.length ≤ 1000000) :
  Calls Tryz.prog 31 #[.slice a1 l.length c1, .slice a2 m.length c2] w fun e w' => e = .returned (.bool (eqDims l m)) ∧ Below w.heap.size w w' := by
 obtain ⟨p1, p2, p3⟩ := h1
 obtain ⟨q1, q2, q3⟩ := h2
 obtain ⟨n, hn⟩ : ∃ n, n = l.length := ⟨_, rfl⟩
 obtain ⟨k, hk⟩ : ∃ n, n = m.length := ⟨_, rfl⟩
 obtain ⟨R, hR⟩ : ∃ x, x = eqDims l m := ⟨_, rfl⟩
 unfold maxLen at p2 q2
 rw [← hn] at p1 p3 hsm ⊢
 rw [← hk] at q1 q3 ⊢
 rw [← hR]
 have P3 := Lib.hid p3
 have Q3 := Lib.hid q3
 have HR := Lib.hid hR
 have HN := Lib.hid (And.intro hn hk)
 clear p3 q3 hR hn hk
 go_enter Tryz.func31, Tryz.ntmps31
 by_cases hnk : n = k
 ·subst hnk
  have e0 : ((n : Int) == (n : Int)) = true := by simp
  go_wp2_with fail
  go_loopw [13] (fun x wr => ∃ i : Nat, i ≤ n ∧ x = .int .i64 i ∧ Hid (∀ j, j < i → dmEq (l.getD j Dm.none) (m.getD j Dm.none) = true) ∧ Hid (Below w.heap.size w wr)) (fun x _ => n - (intOf x).toNat)
  case atStart => exact ⟨0, Nat.zero_le _, rfl, Lib.hid (fun j hj => absurd hj (by omega)), Lib.hid (Below.refl _ _)⟩
  case round =>
   obtain ⟨i, hin, rfl, hall, hbw⟩ := hrel
   by_cases hlt : i < n
   ·have e1 : ((i : Int) < (n : Int)) = True := eq_true (by omega)
    obtain ⟨b1, o1, rfl, -, hc1⟩ := P3.out (by omega)
    obtain ⟨b2, o2, rfl, -, hc2⟩ := Q3.out (by omega)
    obtain ⟨x, hx⟩ : ∃ q, q = l.getD i Dm.none := ⟨_, rfl⟩
    obtain ⟨y, hy⟩ : ∃ q, q = m.getD i Dm.none := ⟨_, rfl⟩
    have h1 := hc1 i hlt
    have h2 := hc2 i hlt
    rw [← hx] at h1
    rw [← hy] at h2
    have x0 := cell_below hbw.out h1.1
    have x1 := cell_below hbw.out h1.2.1
    have x2 := cell_below hbw.out h1.2.2.1
    have x3 := cell_below hbw.out h1.2.2.2
    have y0 := cell_below hbw.out h2.1
    have y1 := cell_below hbw.out h2.2.1
    have y2 := cell_below hbw.out h2.2.2.1
    have y3 := cell_below hbw.out h2.2.2.2
    have hi0 : (0 : Int) ≤ (i : Int) := by omega
    have hi1 : (i : Int) < (n : Int) := by omega
    have HXY := Lib.hid (And.intro hx hy)
    clear hx hy h1 h2 hc1 hc2
    have hev := neq_dim x y
    have hvg := dim_guard
    obtain ⟨q, hq⟩ : ∃ q, q = dmEq x y := ⟨_, rfl⟩
    rw [← hq] at hev
    have HQ := Lib.hid hq
    clear hq
    go_upto_region 6 with fail
    go_quiet (fail)
    cases q with
    | true =>
     have hxy : dmEq x y = true := HQ.out.symm
     go_wp2_with fail
     refine ⟨⟨i + 1, hlt, by congr 1, Lib.hid fun j hj => ?_, Lib.hid (hbw.out.trans ((below_drawn wr _).mono hbw.out.size))⟩, by simp [intOf]; omega⟩
     by_cases h : j < i
     ·exact hall.out j h
     ·obtain rfl : j = i := by omega
      rw [← HXY.out.1, ← HXY.out.2]; exact hxy
    | false =>
     have hR : R = false := by
      rw [HR.out]
      unfold eqDims
      rw [Bool.and_eq_false_iff]
      right
      rw [List.all_eq_false]
      refine ⟨i, List.mem_range.2 (by rw [← HN.out.1]; exact hlt), ?_⟩
      rw [← HXY.out.1, ← HXY.out.2, ← HQ.out]
      decide
     go_wp2_with fail
     go_ret
     exact ⟨by rw [hR]; rfl, hbw.out.trans ((below_drawn wr _).mono hbw.out.size)⟩
   ·have e1 : ((i : Int) < (n : Int)) = False := eq_false (by omega)
    obtain rfl : i = n := by omega
    have hR : R = true := by
     rw [HR.out]
     unfold eqDims
     rw [Bool.and_eq_true, beq_iff_eq, List.all_eq_true]
     exact ⟨by rw [← HN.out.1, HN.out.2], fun j hj => hall.out j (by rw [HN.out.1]; exact List.mem_range.1 hj)⟩
    go_wp2_with fail
    go_ret
    exact ⟨by rw [hR]; rfl, hbw.out⟩
 ·have e0 : ((n : Int) == (k : Int)) = false := beq_eq_false_iff_ne.2 (by omega)
  have hR : R = false := by
   rw [HR.out]
   unfold eqDims
   rw [Bool.and_eq_false_iff]
   left
   rw [beq_eq_false_iff_ne]
   intro h
   exact hnk (HN.out.1.trans (h.trans HN.out.2.symm))
  go_wp2_with fail
  go_ret
  exact ⟨by rw [hR]; rfl, Below.refl _ _⟩
theorem sIndexK_any {w : World} {ao : Option Addr} {c : Nat} {l : List (Nat × Int)} (h : VarsIn w ao c l) (hsm : l.length ≤ 1000000) (i k : Int) :
  Calls Tryz.prog 37 #[.slice ao l.length c, .agg #[.int .i64 i, .int .i64 k]] w fun e w' => e = .returned (.int .i64 (varAt l i k)) ∧ Below w.heap.size w w' := by
 obtain ⟨n, hn⟩ : ∃ n, n = l.length := ⟨_, rfl⟩
 obtain ⟨wa, hwa⟩ : ∃ wa, wa = w.alloc (.cells #[.int .i64 i, .int .i64 k] 88) := ⟨_, rfl⟩
 obtain ⟨bv, hbv⟩ : ∃ b, b = w.heap.size := ⟨_, rfl⟩
 have hal : Below w.heap.size w wa := by rw [hwa]; exact (Below.refl _ w).alloc (Nat.le_refl _) _
 have kv : wa.heap[bv]? = some (.cells #[.int .i64 i, .int .i64 k] 88 (0, 0)) := by rw [hwa, hbv]; exact heap_alloc_new w _
 have v0 := block_cell kv 0
 have v1 := block_cell kv 1
 simp at v0 v1
 have HAL := Lib.hid hal
 have HV := Lib.hid (And.intro v0 v1)
 have HVR := Lib.hid (show varAt l i k = pos (fun j => isVar i k (l.getD j (0, 0))) n 0 by rw [hn]; rfl)
 obtain ⟨p, hp⟩ : ∃ p, p = fun j => isVar i k (l.getD j (0, 0)) := ⟨_, rfl⟩
 rw [← hp] at HVR
 obtain ⟨h1, h2, h3⟩ := h
 unfold maxLen at h2
 rw [← hn] at h1 h3 hsm ⊢
 have H3 := Lib.hid h3
 have HP := Lib.hid hp
 have HW := Lib.hid (And.intro hwa hbv)
 clear hwa hbv hal kv v0 v1 hn h3 hp
 go_enter Tryz.func37, Tryz.ntmps37
 go_upto_region 1 with fail
 rw [← HW.out.1, ← HW.out.2]
 clear HW
 go_wp2_with fail
 go_loopw [8] (fun x wr => ∃ m : Nat, m ≤ n ∧ x = .int .i64 m ∧ Hid (∀ j, j < m → p j = false) ∧ Hid (Below wa.heap.size wa wr)) (fun x _ => n - (intOf x).toNat)
 case atStart => exact ⟨0, Nat.zero_le _, rfl, Lib.hid (fun j hj => absurd hj (by omega)), Lib.hid (Below.refl _ _)⟩
 case round =>
  obtain ⟨m, hmn, rfl, hno, hbw⟩ := hrel
  by_cases hlt : m < n
  ·have e1 : ((m : Int) < (n : Int)) = True := eq_true (by omega)
   obtain ⟨b, o, rfl, hl, hc⟩ := H3.out (by omega)
   have hx := hc m hlt
   obtain ⟨q, hq⟩ : ∃ q, q = l.getD m (0, 0) := ⟨_, rfl⟩
   rw [← hq] at hx
   have hB := HAL.out.trans (hbw.out.mono HAL.out.size)
   have x0 := cell_below hB hx.1
   have x1 := cell_below hB hx.2
   have v0 := cell_below hbw.out HV.out.1
   have v1 := cell_below hbw.out HV.out.2
   have hi0 : (0 : Int) ≤ (m : Int) := by omega
   have hi1 : (m : Int) < (n : Int) := by omega
   have HPM := Lib.hid (show p m = isVar i k q by rw [HP.out, hq])
   clear hx hc hq hB
   have hev := eq_key i k (q.1 : Int) q.2
   have hvg := key_guard
   go_upto_region 4 with fail
   go_quiet (fail)
   cases hpm : isVar i k q with
   | true =>
    have e3 : (i == (q.1 : Int) && k == q.2) = true := by
     unfold isVar at hpm
     rw [beq_dec, beq_dec, ← hpm]
     congr 1 <;> exact decide_eq_decide.2 eq_comm
    have HQ := Lib.hid (pos_some (p := p) (n := n) (k := 0) (i := m) (Nat.zero_le _) (by omega) (fun j _ h => hno.out j h) (by rw [HPM.out, hpm]))
    rw [e3]
    go_wp2_with fail
    go_ret
    exact ⟨by rw [HVR.out, HQ.out]; rfl, HAL.out.trans ((hbw.out.trans ((below_drawn wr _).mono hbw.out.size)).mono HAL.out.size)⟩
   | false =>
    have e3 : (i == (q.1 : Int) && k == q.2) = false := by
     unfold isVar at hpm
     rw [beq_dec, beq_dec, ← hpm]
     congr 1 <;> exact decide_eq_decide.2 eq_comm
    rw [e3]
    go_wp2_with fail
    refine ⟨⟨m + 1, hlt, by congr 1, Lib.hid fun j hj => ?_, Lib.hid (hbw.out.trans ((below_drawn wr _).mono hbw.out.size))⟩, by simp [intOf]; omega⟩
    by_cases h : j < m
    ·exact hno.out j h
    ·obtain rfl : j = m := by omega
     rw [HPM.out, hpm]
  ·have e1 : ((m : Int) < (n : Int)) = False := eq_false (by omega)
   obtain rfl : m = n := by omega
   have HN := Lib.hid (pos_none (p := p) (n := m) (k := 0) (fun j _ h => hno.out j (by omega)))
   go_wp2_with fail
   go_ret
   exact ⟨by rw [HVR.out, HN.out]; rfl, HAL.out.trans (hbw.out.mono HAL.out.size)⟩
end Go.Proofs.YtgofihilkobenaaGreatDoor
